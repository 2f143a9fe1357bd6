/-
  DeviceDown answers true for every input, and each argument reads behind the call as it read before: no condition.
-/
import Derived.Test.YtdinbhanekpjoaaDownW
import Derived.Test.YtdinbhanekpjoaaTrod
namespace Go.Proofs.Ytdinbhanekpjoaa.deviceDown
open Go.ChangeShapes Go.WideShapes Go.ChangeAt Go.RowKit

set_option maxRecDepth 100000 in
set_option maxHeartbeats 2000000 in
theorem any (zones size op : Int) (A1 : Option Addr) (cap1 : Nat) (os : List OpV) (A2m : Option Addr) (cap2 : Nat) (ms : List OpV) (w : World) (h1 : CameOps w A1 os) (b1 : os.length ≤ maxLen) (h2 : CameOps w A2m ms) (b2 : ms.length ≤ maxLen) :
    Calls Try.prog 7 #[.int .i64 zones, .int .i64 size, .int .i64 op, .slice A1 os.length cap1, .slice A2m ms.length cap2] w fun e w' => e = .returned (.bool true) ∧ Below w.heap.size w w' := by
  unfold maxLen at b1 b2
  by_cases hz : 40 < zones
  · clear h1 h2
    go_enter Try.func7, Try.ntmps7
    go_wp2_with fail
    refine (anchor7_any _).mono ?_
    rintro e w1 ⟨rfl, hb1⟩
    go_wp2_with fail
    go_ret
    exact ⟨rfl, hb1⟩
  · by_cases hr : rightB zones size op = true
    · have hr' := hr
      simp only [rightB, Bool.and_eq_true, decide_eq_true_eq] at hr'
      obtain ⟨⟨⟨⟨⟨r1, r2⟩, r3⟩, r4⟩, r5⟩, r6⟩ := hr'
      by_cases hnos : os.length ≤ 60
      · skip
        by_cases hnms : ms.length ≤ 60
        · skip
          obtain ⟨n, rfl⟩ := Int.eq_ofNat_of_zero_le (show 0 ≤ zones by omega)
          exact down_walk n size op A1 cap1 os A2m cap2 ms w h1 (by omega) (by omega) r3 r4 r5 r6 hnos h2 hnms
        · skip
          have Hr : Hid (∀ w, Calls Try.prog 14 #[.int .i64 zones, .int .i64 size, .int .i64 op] w fun e w' => e = .returned (.bool true) ∧ w = w') := hide (fun w => by
            have := right_any zones size op w
            rwa [hr] at this)
          have aos : decide (60 < os.length) = false := decide_eq_false (by omega)
          have cos : decide ((60 : Int) < (os.length : Int)) = false := decide_eq_false (by omega)
          have ams : decide (60 < ms.length) = true := decide_eq_true (by omega)
          have cms : decide ((60 : Int) < (ms.length : Int)) = true := decide_eq_true (by omega)
          clear h1 h2 r1 r2 r3 r4 r5 r6 hnms hnos hr
          go_enter Try.func7, Try.ntmps7
          go_wp2_with fail
          refine (anchor7_any _).mono ?_
          rintro e w1 ⟨rfl, hb1⟩
          go_wp2_with fail
          refine (Hr.out _).mono ?_
          rintro e w' ⟨rfl, rfl⟩
          go_wp2_with fail
          go_ret
          exact ⟨rfl, hb1⟩
      · skip
        have Hr : Hid (∀ w, Calls Try.prog 14 #[.int .i64 zones, .int .i64 size, .int .i64 op] w fun e w' => e = .returned (.bool true) ∧ w = w') := hide (fun w => by
          have := right_any zones size op w
          rwa [hr] at this)
        have aos : decide (60 < os.length) = true := decide_eq_true (by omega)
        have cos : decide ((60 : Int) < (os.length : Int)) = true := decide_eq_true (by omega)
        clear h1 h2 r1 r2 r3 r4 r5 r6 hnos  hr
        go_enter Try.func7, Try.ntmps7
        go_wp2_with fail
        refine (anchor7_any _).mono ?_
        rintro e w1 ⟨rfl, hb1⟩
        go_wp2_with fail
        refine (Hr.out _).mono ?_
        rintro e w' ⟨rfl, rfl⟩
        go_wp2_with fail
        go_ret
        exact ⟨rfl, hb1⟩
    · have hr2 : rightB zones size op = false := by simpa using hr
      clear hr
      have hr := hr2
      have Hr : Hid (∀ w, Calls Try.prog 14 #[.int .i64 zones, .int .i64 size, .int .i64 op] w fun e w' => e = .returned (.bool false) ∧ w = w') := hide (fun w => by
        have := right_any zones size op w
        rwa [hr] at this)
      clear h1 h2 hr hr2
      go_enter Try.func7, Try.ntmps7
      go_wp2_with fail
      refine (anchor7_any _).mono ?_
      rintro e w1 ⟨rfl, hb1⟩
      go_wp2_with fail
      refine (Hr.out _).mono ?_
      rintro e w' ⟨rfl, rfl⟩
      go_wp2_with fail
      go_ret
      exact ⟨rfl, hb1⟩

theorem own : ownKnob Try.prog.godebug = none := by kernel_rfl
theorem laidOut : laidOutB Try.prog = true := by kernel_rfl

set_option maxRecDepth 100000 in
theorem lifted (os : Os) (started : os.Started) (H : Type) (enc : TypeId × Value → H) :
    ReturnsInHanded {} Try.checked os 7 .any (Rows.deviceDownSpec.pre6 enc Try.prog Try.f7 Rows.deviceDownRow.domain false) (Rows.deviceDownSpec.post enc Try.prog Try.f7 false true false false) := by
  refine returnsInHanded_of_change (C := Try.checked) own started (by kernel_rfl) Try.func7
    (ChangeSpec.witness6 (enc := enc) (C := Try.checked) false ⟨#[], #[.int .i64 0, .int .i64 0, .int .i64 0, .slice none 0 0, .slice none 0 0], []⟩ 8 (by kernel_rfl) (by kernel_rfl) (by kernel_rfl) (by kernel_rfl)) ?_
  intro W base args ds gs before hval0 hW hcnd _
  have hval : ∀ (j : Nat) t v, Try.f7.params[j]? = some t → args[j]? = some v → Value.okWide Try.prog W .any base t v := hval0
  have hW' := hW
  obtain ⟨p, q, hA0, hV, rfl, hfz, hnd⟩ := hW
  have hA : DataW.TrodAll enc Try.prog W 0 (fun _ => true) true Try.f7.params.toList args.toList ds p := hA0
  rw [Try.params7] at hA hval
  obtain ⟨v0, v1, v2, v3, v4, d0, d1, d2, d3, d4, p0, p1, p2, p3, p4, rfl, rfl, rfl, h0, h1, h2, h3, h4⟩ := trodAll_five hA
  obtain ⟨rfl, rfl⟩ := trodVars_none hV
  obtain ⟨zones, rfl, rfl, rfl, wa⟩ := open_int Try.underlying3 (hval 0 3 v0 rfl rfl) h0
  obtain ⟨size, rfl, rfl, rfl, wb⟩ := open_int Try.underlying3 (hval 1 3 v1 rfl rfl) h1
  obtain ⟨op, rfl, rfl, rfl, wc⟩ := open_int Try.underlying3 (hval 2 3 v2 rfl rfl) h2
  obtain ⟨a1, len1, cap1, rfl⟩ := okWide_slice Try.underlying22 (hval 3 22 v3 rfl rfl)
  obtain ⟨a2, len2, cap2, rfl⟩ := okWide_slice Try.underlying22 (hval 4 22 v4 rfl rfl)
  clear hA0 hval0
  have hlt3 : ∀ x ∈ p3, x.block < W.heap.size := fun x hx => hW'.lt x (by simp [hx])
  obtain ⟨hm1, os1, rfl, hc1⟩ := ops_came h3 rfl
  have hlt4 : ∀ x ∈ p4, x.block < W.heap.size := fun x hx => hW'.lt x (by simp [hx])
  obtain ⟨hm2, os2, rfl, hc2⟩ := ops_came h4 rfl
  refine (any zones size op a1 cap1 os1 a2 cap2 os2 W hc1 hm1 hc2 hm2).mono fun e W' ⟨he, hb⟩ => ?_
  subst he
  refine ⟨_, rfl, _, _, _, [], [] ++ [] ++ [] ++ p3 ++ p4, [], hW', trodAll_mk1 (shut_bool Try.underlying4 true), ?_, rfl, hb.frame _, fun h => by cases h⟩
  exact trodAll_mk5 (shut_int Try.underlying3 wa) (shut_int Try.underlying3 wb) (shut_int Try.underlying3 wc) (Below.trod laidOut (by kernel_rfl) (of_decide_eq_true (by kernel_rfl)) h3 hb hlt3) (Below.trod laidOut (by kernel_rfl) (of_decide_eq_true (by kernel_rfl)) h4 hb hlt4)

theorem proved : Rows.DeviceDownSaid :=
  OpenClaim.holds_of_wide 7 Try.f7 rfl rfl rfl rfl rfl rfl rfl ⟨rfl, rfl, rfl, rfl, rfl⟩ rfl rfl rfl rfl rfl (by kernel_rfl) Try.func7 (by kernel_rfl)
    (of_decide_eq_true (by kernel_rfl)) (by unfold Func.isWrapper; first | (rw [if_pos (by decide +kernel)]; kernel_rfl) | (rw [if_neg (by decide +kernel)]; exact ⟨rfl, rfl⟩))
    (fun os started H enc _ => lifted os started H enc)
end Go.Proofs.Ytdinbhanekpjoaa.deviceDown
