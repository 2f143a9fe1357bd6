/-
  ZonePrefix answers true for every size and every slice of steps, and each argument reads behind the call as it read before: no condition.
-/
import Derived.Test.YtahlphclighccaaPrefix
import Derived.Test.YtahlphclighccaaOpen
namespace Go.Proofs.Ytahlphclighccaa.zonePrefix
open Go.ChangeShapes Go.WideShapes Go.ChangeAt Go.RowKit

set_option maxRecDepth 100000 in
set_option maxHeartbeats 2000000 in
theorem any (size : Int) (A1 : Option Addr) (cap1 : Nat) (os : List Stp) (w : World) (h1 : CameOps w A1 os) (b1 : os.length ≤ maxLen) :
    Calls Try.prog 4 #[.int .i64 size, .slice A1 os.length cap1] w fun e w' => e = .returned (.bool true) ∧ Below w.heap.size w w' := by
  unfold maxLen at b1
  have hwb0 : Below w.heap.size w (w.alloc (.cells #[.bool false] 4)) := (Below.refl _ w).alloc (Nat.le_refl _) _
  have h5b0 : Blk (w.alloc (.cells #[.bool false] 4)) w.heap.size 4 #[.bool false] := Blk.new _ _ _
  by_cases hsz : size < 1 ∨ 64 < size
  · clear h1
    go_enter Try.func4, Try.ntmps4
    go_wp2_with fail
    obtain ⟨wb, hwb⟩ : ∃ wb, wb = w.alloc (.cells #[.bool false] 4) := ⟨_, rfl⟩
    rw [← hwb] at hwb0 h5b0 ⊢
    clear hwb
    refine (ZI.anchor_any _).mono ?_
    rintro e w1 ⟨rfl, hb1⟩
    have h4 : Blk w1 w.heap.size 4 #[.bool false] := (hb1.block w.heap.size h5b0.lt).trans h5b0
    have c4 : w1.cell? ⟨w.heap.size, 0, none⟩ = some (.bool false) := h4.cell 0
    have f4 := h4.frozen 0
    go_wp2_with fail
    refine (ZI.new_no size _ hsz).mono ?_
    rintro e w2 ⟨rfl, rfl⟩
    clear hsz
    go_wp2_with fail
    refine bodyPost_ret (v := .bool true) (by simp [results, Try.f4, go_sem, c4]) rfl ⟨rfl, ?_⟩
    exact (hwb0.trans (hb1.mono hwb0.size)).setCell (p := ⟨w.heap.size, 0, none⟩) (Nat.le_refl _) _
  · have hs1 : 1 ≤ size := by omega
    have hs2 : size ≤ 64 := by omega
    clear hsz
    by_cases hn1 : 80 < os.length
    · clear h1
      have d80 : decide (80 < (os.length : Int)) = true := decide_eq_true (by omega)
      go_enter Try.func4, Try.ntmps4
      go_wp2_with fail
      obtain ⟨wb, hwb⟩ : ∃ wb, wb = w.alloc (.cells #[.bool false] 4) := ⟨_, rfl⟩
      rw [← hwb] at hwb0 h5b0 ⊢
      clear hwb
      refine (ZI.anchor_any _).mono ?_
      rintro e w1 ⟨rfl, hb1⟩
      go_wp2_with fail
      refine (ZI.new_any size _ hs1 hs2).mono ?_
      rintro e w2 ⟨rfl, hmade⟩
      obtain ⟨F2, hz2, hb2, hf2⟩ := hmade.below
      have h4 : Blk w1 w.heap.size 4 #[.bool false] := (hb1.block w.heap.size h5b0.lt).trans h5b0
      have h42 : Blk w2 w.heap.size 4 #[.bool false] := (hb2.block w.heap.size h4.lt).trans h4
      have c4 : w2.cell? ⟨w.heap.size, 0, none⟩ = some (.bool false) := h42.cell 0
      have f4 := h42.frozen 0
      clear hmade hz2
      go_wp2_with fail
      refine bodyPost_ret (v := .bool true) (by simp [results, Try.f4, go_sem, c4]) rfl ⟨rfl, ?_⟩
      exact ((hwb0.trans (hb1.mono hwb0.size)).trans (hb2.mono (Nat.le_trans hwb0.size hb1.size))).setCell (p := ⟨w.heap.size, 0, none⟩) (Nat.le_refl _) _
    · exact prefix_walk size A1 cap1 os w h1 hs1 hs2 (by omega)

theorem own : ownKnob Try.prog.godebug = none := by kernel_rfl
theorem laidOut : laidOutB Try.prog = true := by kernel_rfl

set_option maxRecDepth 100000 in
theorem lifted (os : Os) (started : os.Started) (H : Type) (enc : TypeId × Value → H) :
    ReturnsInHanded {} Try.checked os 4 .any (Rows.zonePrefixSpec.pre6 enc Try.prog Try.f4 Rows.zonePrefixRow.domain false) (Rows.zonePrefixSpec.post enc Try.prog Try.f4 false true false false) := by
  refine returnsInHanded_of_change (C := Try.checked) own started (by kernel_rfl) Try.func4
    (ChangeSpec.witness6 (enc := enc) (C := Try.checked) false ⟨#[], #[.int .i64 0, .slice none 0 0], []⟩ 8 (by kernel_rfl) (by kernel_rfl) (by kernel_rfl) (by kernel_rfl)) ?_
  intro W base args ds gs before hval0 hW hcnd _
  have hval : ∀ (j : Nat) t v, Try.f4.params[j]? = some t → args[j]? = some v → Value.okWide Try.prog W .any base t v := hval0
  have hW' := hW
  obtain ⟨p, q, hA0, hV, rfl, hfz, hnd⟩ := hW
  have hA : DataW.TrodAll enc Try.prog W 0 (fun _ => true) true Try.f4.params.toList args.toList ds p := hA0
  rw [Try.params4] at hA hval
  obtain ⟨v0, v1, d0, d1, p0, p1, rfl, rfl, rfl, h0, h1⟩ := trodAll_two hA
  obtain ⟨rfl, rfl⟩ := trodVars_none hV
  obtain ⟨size, rfl, rfl, rfl, wa⟩ := open_int Try.underlying3 (hval 0 3 v0 rfl rfl) h0
  obtain ⟨a1, len1, cap1, rfl⟩ := okWide_slice Try.underlying35 (hval 1 35 v1 rfl rfl)
  clear hA0 hval0
  have hlt1 : ∀ x ∈ p1, x.block < W.heap.size := fun x hx => hW'.lt x (by simp [hx])
  obtain ⟨hm1, os1, rfl, hc1⟩ := ops_came h1 rfl hlt1
  refine (any size a1 cap1 os1 W hc1 hm1).mono fun e W' ⟨he, hb⟩ => ?_
  subst he
  refine ⟨_, rfl, _, _, _, [], [] ++ p1, [], hW', trodAll_mk1 (shut_bool Try.underlying4 true), ?_, rfl, hb.frame _, fun h => by cases h⟩
  exact trodAll_mk2 (shut_int Try.underlying3 wa) (Below.trod laidOut (by kernel_rfl) (of_decide_eq_true (by kernel_rfl)) h1 hb hlt1)

theorem proved : Rows.ZonePrefixSaid :=
  OpenClaim.holds_of_wide 4 Try.f4 rfl rfl rfl rfl rfl rfl rfl ⟨rfl, rfl, rfl, rfl, rfl⟩ rfl rfl rfl rfl rfl (by kernel_rfl) Try.func4 (by kernel_rfl)
    (of_decide_eq_true (by kernel_rfl)) (by unfold Func.isWrapper; first | (rw [if_pos (by decide +kernel)]; kernel_rfl) | (rw [if_neg (by decide +kernel)]; exact ⟨rfl, rfl⟩))
    (fun os started H enc _ => lifted os started H enc)
end Go.Proofs.Ytahlphclighccaa.zonePrefix
