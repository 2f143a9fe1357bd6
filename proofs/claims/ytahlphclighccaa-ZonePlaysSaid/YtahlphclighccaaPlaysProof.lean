/-
  ZonePlays answers true for every size, every slice of steps and every stop, and each argument reads behind the call as it read before: no condition.
-/
import Derived.Test.YtahlphclighccaaPlays
import Derived.Test.YtahlphclighccaaOpen
namespace Go.Proofs.Ytahlphclighccaa.zonePlays
open Go.ChangeShapes Go.WideShapes Go.ChangeAt Go.RowKit

set_option maxRecDepth 100000 in
set_option maxHeartbeats 2000000 in
theorem any (size : Int) (A1 : Option Addr) (cap1 : Nat) (os : List Stp) (stop : Int) (w : World) (h1 : CameOps w A1 os) (b1 : os.length ≤ maxLen) :
    Calls Try.prog 6 #[.int .i64 size, .slice A1 os.length cap1, .int .i64 stop] w fun e w' => e = .returned (.bool true) ∧ Below w.heap.size w w' := by
  unfold maxLen at b1
  by_cases hsz : size < 1 ∨ 64 < size
  · clear h1
    have hb0 : Below w.heap.size w (w.alloc (.cells #[.int .i64 stop] 3)) := (Below.refl _ w).alloc (Nat.le_refl _) _
    by_cases hs1 : size < 1
    · have d1 : decide (size < 1) = true := decide_eq_true hs1
      have hsz' := hide hsz
      clear hs1 hsz
      go_enter Try.func6, Try.ntmps6
      go_wp2_with fail
      refine (ZI.anchor_any _).mono ?_
      rintro e w1 ⟨rfl, hb1⟩
      go_wp2_with fail
      refine (ZI.new_no size _ hsz'.out).mono ?_
      rintro e w2 ⟨rfl, rfl⟩
      go_wp2_with fail
      go_ret
      exact ⟨rfl, hb0.trans (hb1.mono hb0.size)⟩
    · have d1 : decide (size < 1) = false := decide_eq_false hs1
      have d2 : decide (64 < size) = true := decide_eq_true (by omega)
      have hsz' := hide hsz
      clear hs1 hsz
      go_enter Try.func6, Try.ntmps6
      go_wp2_with fail
      refine (ZI.anchor_any _).mono ?_
      rintro e w1 ⟨rfl, hb1⟩
      go_wp2_with fail
      refine (ZI.new_no size _ hsz'.out).mono ?_
      rintro e w2 ⟨rfl, rfl⟩
      go_wp2_with fail
      go_ret
      exact ⟨rfl, hb0.trans (hb1.mono hb0.size)⟩
  · have hs1 : 1 ≤ size := by omega
    have hs2 : size ≤ 64 := by omega
    clear hsz
    by_cases hn1 : 80 < os.length
    · clear h1
      have hb0 : Below w.heap.size w (w.alloc (.cells #[.int .i64 stop] 3)) := (Below.refl _ w).alloc (Nat.le_refl _) _
      have d1 : decide (size < 1) = false := decide_eq_false (by omega)
      have d2 : decide (64 < size) = false := decide_eq_false (by omega)
      go_enter Try.func6, Try.ntmps6
      go_wp2_with fail
      refine (ZI.anchor_any _).mono ?_
      rintro e w1 ⟨rfl, hb1⟩
      go_wp2_with fail
      refine (ZI.new_any size _ hs1 hs2).mono ?_
      rintro e w2 ⟨rfl, hmade⟩
      obtain ⟨F2, hz2, hb2, hf2⟩ := hmade.below
      clear hmade hz2 hs1 hs2
      go_wp2_with fail
      go_ret
      exact ⟨rfl, (hb0.trans (hb1.mono hb0.size)).trans (hb2.mono (Nat.le_trans hb0.size hb1.size))⟩
    · exact plays_walk size A1 cap1 os stop w h1 hs1 hs2 (by omega)

theorem own : ownKnob Try.prog.godebug = none := by kernel_rfl
theorem laidOut : laidOutB Try.prog = true := by kernel_rfl

set_option maxRecDepth 100000 in
theorem lifted (os : Os) (started : os.Started) (H : Type) (enc : TypeId × Value → H) :
    ReturnsInHanded {} Try.checked os 6 .any (Rows.zonePlaysSpec.pre6 enc Try.prog Try.f6 Rows.zonePlaysRow.domain false) (Rows.zonePlaysSpec.post enc Try.prog Try.f6 false true false false) := by
  refine returnsInHanded_of_change (C := Try.checked) own started (by kernel_rfl) Try.func6
    (ChangeSpec.witness6 (enc := enc) (C := Try.checked) false ⟨#[], #[.int .i64 0, .slice none 0 0, .int .i64 0], []⟩ 8 (by kernel_rfl) (by kernel_rfl) (by kernel_rfl) (by kernel_rfl)) ?_
  intro W base args ds gs before hval0 hW hcnd _
  have hval : ∀ (j : Nat) t v, Try.f6.params[j]? = some t → args[j]? = some v → Value.okWide Try.prog W .any base t v := hval0
  have hW' := hW
  obtain ⟨p, q, hA0, hV, rfl, hfz, hnd⟩ := hW
  have hA : DataW.TrodAll enc Try.prog W 0 (fun _ => true) true Try.f6.params.toList args.toList ds p := hA0
  rw [Try.params6] at hA hval
  obtain ⟨v0, v1, v2, d0, d1, d2, p0, p1, p2, rfl, rfl, rfl, h0, h1, h2⟩ := trodAll_three hA
  obtain ⟨rfl, rfl⟩ := trodVars_none hV
  obtain ⟨size, rfl, rfl, rfl, wa⟩ := open_int Try.underlying3 (hval 0 3 v0 rfl rfl) h0
  obtain ⟨a1, len1, cap1, rfl⟩ := okWide_slice Try.underlying35 (hval 1 35 v1 rfl rfl)
  obtain ⟨stop, rfl, rfl, rfl, wb⟩ := open_int Try.underlying3 (hval 2 3 v2 rfl rfl) h2
  clear hA0 hval0
  have hlt1 : ∀ x ∈ p1, x.block < W.heap.size := fun x hx => hW'.lt x (by simp [hx])
  obtain ⟨hm1, os1, rfl, hc1⟩ := ops_came h1 rfl hlt1
  refine (any size a1 cap1 os1 stop W hc1 hm1).mono fun e W' ⟨he, hb⟩ => ?_
  subst he
  refine ⟨_, rfl, _, _, _, [], [] ++ p1 ++ [], [], hW', trodAll_mk1 (shut_bool Try.underlying4 true), ?_, rfl, hb.frame _, fun h => by cases h⟩
  have hpl : [] ++ p1 ++ [] = ([] : List MemPlace) ++ (p1 ++ []) := by simp
  rw [hpl]
  exact trodAll_mk3 (shut_int Try.underlying3 wa) (Below.trod laidOut (by kernel_rfl) (of_decide_eq_true (by kernel_rfl)) h1 hb hlt1) (shut_int Try.underlying3 wb)

theorem proved : Rows.ZonePlaysSaid :=
  OpenClaim.holds_of_wide 6 Try.f6 rfl rfl rfl rfl rfl rfl rfl ⟨rfl, rfl, rfl, rfl, rfl⟩ rfl rfl rfl rfl rfl (by kernel_rfl) Try.func6 (by kernel_rfl)
    (of_decide_eq_true (by kernel_rfl)) (by unfold Func.isWrapper; first | (rw [if_pos (by decide +kernel)]; kernel_rfl) | (rw [if_neg (by decide +kernel)]; exact ⟨rfl, rfl⟩))
    (fun os started H enc _ => lifted os started H enc)
end Go.Proofs.Ytahlphclighccaa.zonePlays
