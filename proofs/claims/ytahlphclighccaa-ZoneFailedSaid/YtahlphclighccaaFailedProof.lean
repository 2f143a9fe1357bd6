/-
  ZoneFailed answers true for every size, state and every two slices of steps, and each argument reads behind the call as it read before: no condition.
-/
import Derived.Test.YtahlphclighccaaFailed
import Derived.Test.YtahlphclighccaaOpen
namespace Go.Proofs.Ytahlphclighccaa.zoneFailed
open Go.ChangeShapes Go.WideShapes Go.ChangeAt Go.RowKit

set_option maxRecDepth 100000 in
set_option maxHeartbeats 2000000 in
theorem any (size : Int) (A1 : Option Addr) (cap1 : Nat) (os : List Stp) (state : Int) (A2 : Option Addr) (cap2 : Nat) (ms : List Stp) (w : World) (h1 : CameOps w A1 os) (h2 : CameOps w A2 ms) (b1 : os.length ≤ maxLen) (b2 : ms.length ≤ maxLen) :
    Calls Try.prog 5 #[.int .i64 size, .slice A1 os.length cap1, .int .i64 state, .slice A2 ms.length cap2] w fun e w' => e = .returned (.bool true) ∧ Below w.heap.size w w' := by
  unfold maxLen at b1 b2
  by_cases hsz : size < 1 ∨ 64 < size
  · clear h1 h2
    go_enter Try.func5, Try.ntmps5
    go_wp2_with fail
    refine (ZI.anchor_any _).mono ?_
    rintro e w1 ⟨rfl, hb1⟩
    go_wp2_with fail
    refine (ZI.new_no size _ hsz).mono ?_
    rintro e w2 ⟨rfl, rfl⟩
    clear hsz
    go_wp2_with fail
    go_ret
    exact ⟨rfl, hb1⟩
  · have hs1 : 1 ≤ size := by omega
    have hs2 : size ≤ 64 := by omega
    clear hsz
    by_cases hn1 : 80 < os.length
    · clear h1 h2
      go_enter Try.func5, Try.ntmps5
      go_wp2_with fail
      refine (ZI.anchor_any _).mono ?_
      rintro e w1 ⟨rfl, hb1⟩
      go_wp2_with fail
      refine (ZI.new_any size _ hs1 hs2).mono ?_
      rintro e w2 ⟨rfl, hmade⟩
      obtain ⟨F2, hz2, hb2, hf2⟩ := hmade.below
      clear hmade hz2
      go_wp2_with fail
      go_ret
      exact ⟨rfl, hb1.trans (hb2.mono hb1.size)⟩
    · by_cases hn2 : 80 < ms.length
      · clear h1 h2
        go_enter Try.func5, Try.ntmps5
        go_wp2_with fail
        refine (ZI.anchor_any _).mono ?_
        rintro e w1 ⟨rfl, hb1⟩
        go_wp2_with fail
        refine (ZI.new_any size _ hs1 hs2).mono ?_
        rintro e w2 ⟨rfl, hmade⟩
        obtain ⟨F2, hz2, hb2, hf2⟩ := hmade.below
        clear hmade hz2
        go_wp2_with fail
        go_ret
        exact ⟨rfl, hb1.trans (hb2.mono hb1.size)⟩
      · exact failed_walk size A1 cap1 os state A2 cap2 ms w h1 h2 hs1 hs2 (by omega) (by omega)

theorem own : ownKnob Try.prog.godebug = none := by kernel_rfl
theorem laidOut : laidOutB Try.prog = true := by kernel_rfl

set_option maxRecDepth 100000 in
theorem lifted (os : Os) (started : os.Started) (H : Type) (enc : TypeId × Value → H) :
    ReturnsInHanded {} Try.checked os 5 .any (Rows.zoneFailedSpec.pre6 enc Try.prog Try.f5 Rows.zoneFailedRow.domain false) (Rows.zoneFailedSpec.post enc Try.prog Try.f5 false true false false) := by
  refine returnsInHanded_of_change (C := Try.checked) own started (by kernel_rfl) Try.func5
    (ChangeSpec.witness6 (enc := enc) (C := Try.checked) false ⟨#[], #[.int .i64 0, .slice none 0 0, .int .i64 0, .slice none 0 0], []⟩ 8 (by kernel_rfl) (by kernel_rfl) (by kernel_rfl) (by kernel_rfl)) ?_
  intro W base args ds gs before hval0 hW hcnd _
  have hval : ∀ (j : Nat) t v, Try.f5.params[j]? = some t → args[j]? = some v → Value.okWide Try.prog W .any base t v := hval0
  have hW' := hW
  obtain ⟨p, q, hA0, hV, rfl, hfz, hnd⟩ := hW
  have hA : DataW.TrodAll enc Try.prog W 0 (fun _ => true) true Try.f5.params.toList args.toList ds p := hA0
  rw [Try.params5] at hA hval
  obtain ⟨v0, v1, v2, v3, d0, d1, d2, d3, p0, p1, p2, p3, rfl, rfl, rfl, h0, h1, h2, h3⟩ := trodAll_four hA
  obtain ⟨rfl, rfl⟩ := trodVars_none hV
  obtain ⟨size, rfl, rfl, rfl, wa⟩ := open_int Try.underlying3 (hval 0 3 v0 rfl rfl) h0
  obtain ⟨a1, len1, cap1, rfl⟩ := okWide_slice Try.underlying35 (hval 1 35 v1 rfl rfl)
  obtain ⟨state, rfl, rfl, rfl, wb⟩ := open_int Try.underlying3 (hval 2 3 v2 rfl rfl) h2
  obtain ⟨a3, len3, cap3, rfl⟩ := okWide_slice Try.underlying35 (hval 3 35 v3 rfl rfl)
  clear hA0 hval0
  have hlt1 : ∀ x ∈ p1, x.block < W.heap.size := fun x hx => hW'.lt x (by simp [hx])
  have hlt3 : ∀ x ∈ p3, x.block < W.heap.size := fun x hx => hW'.lt x (by simp [hx])
  obtain ⟨hm1, os1, rfl, hc1⟩ := ops_came h1 rfl hlt1
  obtain ⟨hm3, os3, rfl, hc3⟩ := ops_came h3 rfl hlt3
  refine (any size a1 cap1 os1 state a3 cap3 os3 W hc1 hc3 hm1 hm3).mono fun e W' ⟨he, hb⟩ => ?_
  subst he
  refine ⟨_, rfl, _, _, _, [], [] ++ p1 ++ [] ++ p3, [], hW', trodAll_mk1 (shut_bool Try.underlying4 true), ?_, rfl, hb.frame _, fun h => by cases h⟩
  have hpl : [] ++ p1 ++ [] ++ p3 = ([] : List MemPlace) ++ (p1 ++ ([] ++ p3)) := by simp
  rw [hpl]
  exact trodAll_mk4 (shut_int Try.underlying3 wa) (Below.trod laidOut (by kernel_rfl) (of_decide_eq_true (by kernel_rfl)) h1 hb hlt1) (shut_int Try.underlying3 wb) (Below.trod laidOut (by kernel_rfl) (of_decide_eq_true (by kernel_rfl)) h3 hb hlt3)

theorem proved : Rows.ZoneFailedSaid :=
  OpenClaim.holds_of_wide 5 Try.f5 rfl rfl rfl rfl rfl rfl rfl ⟨rfl, rfl, rfl, rfl, rfl⟩ rfl rfl rfl rfl rfl (by kernel_rfl) Try.func5 (by kernel_rfl)
    (of_decide_eq_true (by kernel_rfl)) (by unfold Func.isWrapper; first | (rw [if_pos (by decide +kernel)]; kernel_rfl) | (rw [if_neg (by decide +kernel)]; exact ⟨rfl, rfl⟩))
    (fun os started H enc _ => lifted os started H enc)
end Go.Proofs.Ytahlphclighccaa.zoneFailed
