/-
  DeviceLooks answers true for every input, and each argument reads behind the call as it read before: no condition.
-/
import Derived.Test.YtdinbhanekpjoaaLooksW
import Derived.Test.YtdinbhanekpjoaaTrod
namespace Go.Proofs.Ytdinbhanekpjoaa.deviceLooks
open Go.ChangeShapes Go.WideShapes Go.ChangeAt Go.RowKit

set_option maxRecDepth 100000 in
set_option maxHeartbeats 2000000 in
theorem any (zones size op : Int) (A1 : Option Addr) (cap1 : Nat) (os : List OpV) (p : Sec) (w : World) (h1 : CameOps w A1 os) (b1 : os.length ≤ maxLen) :
    Calls Try.prog 5 #[.int .i64 zones, .int .i64 size, .int .i64 op, .slice A1 os.length cap1, p.agg] w fun e w' => e = .returned (.bool true) ∧ Below w.heap.size w w' := by
  unfold maxLen at b1
  by_cases hz : 40 < zones
  · clear h1 
    go_enter Try.func5, Try.ntmps5
    go_wp2_with fail
    refine (anchor7_any _).mono ?_
    rintro e w1 ⟨rfl, hb1⟩
    go_wp2_with fail
    go_ret
    exact ⟨rfl, ((Below.refl w.heap.size w).alloc (Nat.le_refl _) _).trans (hb1.mono (by simp))⟩
  · by_cases hr : rightB zones size op = true
    · have hr' := hr
      simp only [rightB, Bool.and_eq_true, decide_eq_true_eq] at hr'
      obtain ⟨⟨⟨⟨⟨r1, r2⟩, r3⟩, r4⟩, r5⟩, r6⟩ := hr'
      by_cases hnos : os.length ≤ 60
      · skip
        obtain ⟨n, rfl⟩ := Int.eq_ofNat_of_zero_le (show 0 ≤ zones by omega)
        exact looks_walk n size op A1 cap1 os p w h1 (by omega) (by omega) r3 r4 r5 r6 hnos
      · skip
        have Hr : Hid (∀ w, Calls Try.prog 14 #[.int .i64 zones, .int .i64 size, .int .i64 op] w fun e w' => e = .returned (.bool true) ∧ w = w') := hide (fun w => by
          have := right_any zones size op w
          rwa [hr] at this)
        have aos : decide (60 < os.length) = true := decide_eq_true (by omega)
        have cos : decide ((60 : Int) < (os.length : Int)) = true := decide_eq_true (by omega)
        clear h1  r1 r2 r3 r4 r5 r6 hnos  hr
        go_enter Try.func5, Try.ntmps5
        go_wp2_with fail
        refine (anchor7_any _).mono ?_
        rintro e w1 ⟨rfl, hb1⟩
        go_wp2_with fail
        refine (Hr.out _).mono ?_
        rintro e w' ⟨rfl, rfl⟩
        go_wp2_with fail
        go_ret
        exact ⟨rfl, ((Below.refl w.heap.size w).alloc (Nat.le_refl _) _).trans (hb1.mono (by simp))⟩
    · have hr2 : rightB zones size op = false := by simpa using hr
      clear hr
      have hr := hr2
      have Hr : Hid (∀ w, Calls Try.prog 14 #[.int .i64 zones, .int .i64 size, .int .i64 op] w fun e w' => e = .returned (.bool false) ∧ w = w') := hide (fun w => by
        have := right_any zones size op w
        rwa [hr] at this)
      clear h1  hr hr2
      go_enter Try.func5, Try.ntmps5
      go_wp2_with fail
      refine (anchor7_any _).mono ?_
      rintro e w1 ⟨rfl, hb1⟩
      go_wp2_with fail
      refine (Hr.out _).mono ?_
      rintro e w' ⟨rfl, rfl⟩
      go_wp2_with fail
      go_ret
      exact ⟨rfl, ((Below.refl w.heap.size w).alloc (Nat.le_refl _) _).trans (hb1.mono (by simp))⟩

theorem own : ownKnob Try.prog.godebug = none := by kernel_rfl
theorem laidOut : laidOutB Try.prog = true := by kernel_rfl

set_option maxRecDepth 100000 in
theorem lifted (os : Os) (started : os.Started) (H : Type) (enc : TypeId × Value → H) :
    ReturnsInHanded {} Try.checked os 5 .any (Rows.deviceLooksSpec.pre6 enc Try.prog Try.f5 Rows.deviceLooksRow.domain false) (Rows.deviceLooksSpec.post enc Try.prog Try.f5 false true false false) := by
  refine returnsInHanded_of_change (C := Try.checked) own started (by kernel_rfl) Try.func5
    (ChangeSpec.witness6 (enc := enc) (C := Try.checked) false ⟨#[], #[.int .i64 0, .int .i64 0, .int .i64 0, .slice none 0 0, Sec.zero.agg], []⟩ 8 (by kernel_rfl) (by kernel_rfl) (by kernel_rfl) (by kernel_rfl)) ?_
  intro W base args ds gs before hval0 hW hcnd _
  have hval : ∀ (j : Nat) t v, Try.f5.params[j]? = some t → args[j]? = some v → Value.okWide Try.prog W .any base t v := hval0
  have hW' := hW
  obtain ⟨p, q, hA0, hV, rfl, hfz, hnd⟩ := hW
  have hA : DataW.TrodAll enc Try.prog W 0 (fun _ => true) true Try.f5.params.toList args.toList ds p := hA0
  rw [Try.params5] at hA hval
  obtain ⟨v0, v1, v2, v3, v4, d0, d1, d2, d3, d4, p0, p1, p2, p3, p4, rfl, rfl, rfl, h0, h1, h2, h3, h4⟩ := trodAll_five hA
  obtain ⟨rfl, rfl⟩ := trodVars_none hV
  obtain ⟨zones, rfl, rfl, rfl, wa⟩ := open_int Try.underlying3 (hval 0 3 v0 rfl rfl) h0
  obtain ⟨size, rfl, rfl, rfl, wb⟩ := open_int Try.underlying3 (hval 1 3 v1 rfl rfl) h1
  obtain ⟨op, rfl, rfl, rfl, wc⟩ := open_int Try.underlying3 (hval 2 3 v2 rfl rfl) h2
  obtain ⟨a1, len1, cap1, rfl⟩ := okWide_slice Try.underlying22 (hval 3 22 v3 rfl rfl)
  obtain ⟨xs4, rfl⟩ : ∃ xs, v4 = .agg xs := by
    have h := hval 4 34 v4 rfl rfl
    simp only [Value.okWide, Try.underlying34] at h
    obtain ⟨cs, h1, _⟩ := h
    exact ⟨cs, h1⟩
  clear hA0 hval0
  have hlt3 : ∀ x ∈ p3, x.block < W.heap.size := fun x hx => hW'.lt x (by simp [hx])
  obtain ⟨hm1, os1, rfl, hc1⟩ := ops_came h3 rfl
  have hlt4 : ∀ x ∈ p4, x.block < W.heap.size := fun x hx => hW'.lt x (by simp [hx])
  have h4k := h4
  obtain ⟨fuel4, hf4⟩ := h4
  obtain ⟨sp, hsp⟩ := sec_came hf4
  obtain rfl : xs4 = sp.cs.toArray := by simpa [Value.cells] using congrArg List.toArray hsp
  refine (any zones size op a1 cap1 os1 sp W hc1 hm1).mono fun e W' ⟨he, hb⟩ => ?_
  subst he
  refine ⟨_, rfl, _, _, _, [], [] ++ [] ++ [] ++ p3 ++ p4, [], hW', trodAll_mk1 (shut_bool Try.underlying4 true), ?_, rfl, hb.frame _, fun h => by cases h⟩
  exact trodAll_mk5 (shut_int Try.underlying3 wa) (shut_int Try.underlying3 wb) (shut_int Try.underlying3 wc) (Below.trod laidOut (by kernel_rfl) (of_decide_eq_true (by kernel_rfl)) h3 hb hlt3) (Below.trod laidOut (by kernel_rfl) (of_decide_eq_true (by kernel_rfl)) h4k hb hlt4)

theorem proved : Rows.DeviceLooksSaid :=
  OpenClaim.holds_of_wide 5 Try.f5 rfl rfl rfl rfl rfl rfl rfl ⟨rfl, rfl, rfl, rfl, rfl⟩ rfl rfl rfl rfl rfl (by kernel_rfl) Try.func5 (by kernel_rfl)
    (of_decide_eq_true (by kernel_rfl)) (by unfold Func.isWrapper; first | (rw [if_pos (by decide +kernel)]; kernel_rfl) | (rw [if_neg (by decide +kernel)]; exact ⟨rfl, rfl⟩))
    (fun os started H enc _ => lifted os started H enc)
end Go.Proofs.Ytdinbhanekpjoaa.deviceLooks
