/-
  A device's methods that go over no zones: what each call answers, and what it leaves in memory.
-/
import Derived.Test.YtdinbhanekpjoaaDev
namespace Go.Proofs.Ytdinbhanekpjoaa.DM
open Go.RowKit

set_option maxHeartbeats 400000 in
theorem within_yes (n most : Int) (w : World) (h1 : 1 ≤ n) (h2 : n ≤ most) : Calls Try.prog 44 #[.int .i64 n, .int .i64 most] w fun e w' => e = .returned (.bool true) ∧ w = w' := by
  go_enter Try.func44, Try.ntmps44
  go_wp2
  go_ret
  exact ⟨rfl, rfl⟩
set_option maxHeartbeats 400000 in
theorem within_no (n most : Int) (w : World) (h : n < 1 ∨ most < n) : Calls Try.prog 44 #[.int .i64 n, .int .i64 most] w fun e w' => e = .returned (.bool false) ∧ w = w' := by
  by_cases h1 : n < 1
  · clear h
    have d1 : decide (1 ≤ n) = false := decide_eq_false (by omega)
    go_enter Try.func44, Try.ntmps44
    go_wp2
    go_ret
    exact ⟨rfl, rfl⟩
  · have h2 : most < n := by omega
    clear h
    have d1 : decide (1 ≤ n) = true := decide_eq_true (by omega)
    have d2 : decide (n ≤ most) = false := decide_eq_false (by omega)
    go_enter Try.func44, Try.ntmps44
    go_wp2
    go_ret
    exact ⟨rfl, rfl⟩

section
variable {w : World} {d : Nat} {D : Dv} {F : Nat → Prop} {A : Option Addr} {c : Nat} {bs : List Nat} {Fs : Nat → Nat → Prop}
set_option maxHeartbeats 400000 in
theorem has_yes (h : DevIs w d D F A c bs Fs) (k : Nat) (hk : k < D.zs.length) : Calls Try.prog 46 #[.pointer (some ⟨d, 0, none⟩), .int .i64 (k : Int)] w fun e w' => e = .returned (.bool true) ∧ w = w' := by
  obtain ⟨c0, -⟩ := h.cells
  have dk : decide ((k : Int) < (D.zs.length : Int)) = true := decide_eq_true (by omega)
  have dk' : decide (k < D.zs.length) = true := decide_eq_true hk
  clear h
  go_enter Try.func46, Try.ntmps46
  go_wp2
  go_ret
  exact ⟨rfl, rfl⟩
set_option maxHeartbeats 400000 in
theorem has_no (h : DevIs w d D F A c bs Fs) (z : Int) (hz : z < 0 ∨ (D.zs.length : Int) ≤ z) : Calls Try.prog 46 #[.pointer (some ⟨d, 0, none⟩), .int .i64 z] w fun e w' => e = .returned (.bool false) ∧ w = w' := by
  obtain ⟨c0, -⟩ := h.cells
  clear h
  by_cases h0 : z < 0
  · clear hz
    have d1 : decide (0 ≤ z) = false := decide_eq_false (by omega)
    go_enter Try.func46, Try.ntmps46
    go_wp2
    go_ret
    exact ⟨rfl, rfl⟩
  · have h1 : (D.zs.length : Int) ≤ z := by omega
    clear hz
    have d1 : decide (0 ≤ z) = true := decide_eq_true (by omega)
    have d2 : decide (z < (D.zs.length : Int)) = false := decide_eq_false (by omega)
    go_enter Try.func46, Try.ntmps46
    go_wp2
    go_ret
    exact ⟨rfl, rfl⟩
set_option maxHeartbeats 400000 in
theorem down_any (h : DevIs w d D F A c bs Fs) : Calls Try.prog 20 #[.pointer (some ⟨d, 0, none⟩)] w fun e w' => e = .returned (.bool D.down) ∧ w = w' := by
  obtain ⟨-, -, -, -, c4, -⟩ := h.cells
  clear h
  go_enter Try.func20, Try.ntmps20
  go_wp2
  go_ret
  exact ⟨rfl, rfl⟩
set_option maxHeartbeats 400000 in
theorem count_any (h : DevIs w d D F A c bs Fs) : Calls Try.prog 26 #[.pointer (some ⟨d, 0, none⟩)] w fun e w' => e = .returned (.int .i64 (D.n : Int)) ∧ w = w' := by
  obtain ⟨-, -, -, c3, -⟩ := h.cells
  clear h
  go_enter Try.func26, Try.ntmps26
  go_wp2
  go_ret
  exact ⟨rfl, rfl⟩
set_option maxHeartbeats 400000 in
theorem zones_any (h : DevIs w d D F A c bs Fs) : Calls Try.prog 66 #[.pointer (some ⟨d, 0, none⟩)] w fun e w' => e = .returned (.int .i64 (D.zs.length : Int)) ∧ w = w' := by
  obtain ⟨c0, -⟩ := h.cells
  clear h
  go_enter Try.func66, Try.ntmps66
  go_wp2
  go_ret
  exact ⟨rfl, rfl⟩
set_option maxHeartbeats 400000 in
theorem size_any (h : DevIs w d D F A c bs Fs) : Calls Try.prog 67 #[.pointer (some ⟨d, 0, none⟩)] w fun e w' => e = .returned (.int .i64 D.size) ∧ w = w' := by
  obtain ⟨-, c1, -⟩ := h.cells
  clear h
  go_enter Try.func67, Try.ntmps67
  go_wp2
  go_ret
  exact ⟨rfl, rfl⟩
set_option maxHeartbeats 400000 in
theorem crash_any (h : DevIs w d D F A c bs Fs) : Calls Try.prog 23 #[.pointer (some ⟨d, 0, none⟩)] w fun e w' => e = .returned (.tuple #[]) ∧ DDid w w' d { D with down := true } F A c bs := by
  obtain ⟨-, -, -, -, c4, -, f4⟩ := h.cells
  have h' := hide h
  clear h
  go_enter Try.func23, Try.ntmps23
  go_wp2
  go_end0
  exact ⟨rfl, F, Fs, h'.out.downTo true, (Mods.refl F w).setCell (.inl h'.out.inF.1) _, fun _ hk => .inl hk⟩
set_option maxHeartbeats 400000 in
theorem begin_any (h : DevIs w d D F A c bs Fs) (hn : D.n < 65536) (z : Int) : Calls Try.prog 59 #[.pointer (some ⟨d, 0, none⟩), .int .i64 z] w fun e w' => e = .returned (.int .i64 (D.begin_ z).2) ∧ DDid w w' d (D.begin_ z).1 F A c bs := by
  obtain ⟨-, -, -, c3, c4, f3, -⟩ := h.cells
  have h' := hide h
  by_cases hd : D.down = true
  · have hfin := hide (Dv.begin_down z hd)
    rw [hd] at c4
    clear h hd
    go_enter Try.func59, Try.ntmps59
    go_wp2
    go_ret
    rw [hfin.out]
    exact ⟨rfl, h'.out.same⟩
  · by_cases hz : z < 0 ∨ (D.zs.length : Int) ≤ z
    · have hfin := hide (Dv.begin_out z hd hz)
      have Hc := hide (has_no h z hz)
      rw [Bool.not_eq_true] at hd
      rw [hd] at c4
      clear h hd hz
      go_enter Try.func59, Try.ntmps59
      go_wp2_with fail
      refine Hc.out.mono ?_
      rintro e w' ⟨rfl, rfl⟩
      go_wp2_with fail
      go_ret
      rw [hfin.out]
      exact ⟨rfl, h'.out.same⟩
    · obtain ⟨k, rfl⟩ := Int.eq_ofNat_of_zero_le (show 0 ≤ z by omega)
      have hk : k < D.zs.length := by omega
      have hfin := hide (Dv.begin_in k hd hk)
      have Hc := hide (has_yes h k hk)
      rw [Bool.not_eq_true] at hd
      rw [hd] at c4
      clear h hd hz
      go_enter Try.func59, Try.ntmps59
      go_wp2_with fail
      refine Hc.out.mono ?_
      rintro e w' ⟨rfl, rfl⟩
      go_wp2_with fail
      go_ret
      rw [hfin.out]
      exact ⟨rfl, F, Fs, h'.out.count, (Mods.refl F w).setCell (.inl h'.out.inF.1) _, fun _ hk => .inl hk⟩
set_option maxHeartbeats 400000 in
theorem state_any (h : DevIs w d D F A c bs Fs) (z : Int) : Calls Try.prog 17 #[.pointer (some ⟨d, 0, none⟩), .int .i64 z] w fun e w' => e = .returned (.int .i64 (D.stateOf z)) ∧ w = w' := by
  by_cases hz : z < 0 ∨ (D.zs.length : Int) ≤ z
  · have hfin := hide (Dv.stateOf_out hz)
    have Hc := hide (has_no h z hz)
    clear h hz
    go_enter Try.func17, Try.ntmps17
    go_wp2_with fail
    refine Hc.out.mono ?_
    rintro e w' ⟨rfl, rfl⟩
    go_wp2_with fail
    go_ret
    rw [hfin.out]
    exact ⟨rfl, rfl⟩
  · obtain ⟨k, rfl⟩ := Int.eq_ofNat_of_zero_le (show 0 ≤ z by omega)
    have hk : k < D.zs.length := by omega
    have hfin := hide (Dv.stateOf_in hk)
    have Hc := hide (has_yes h k hk)
    obtain ⟨c0, -⟩ := h.cells
    obtain ⟨g, rfl, hlc, hk', cg, -⟩ := h.at_ hk
    obtain ⟨zA, zc, hzb, -⟩ := h.zone k hk hk'
    have z3 : w.cell? ⟨bs[k], 3, none⟩ = some (.int .i64 D.zs[k].state) := hzb.cell 3
    have Hs := hide (ZD.state_any bs[k] _ w z3)
    clear h hz hzb z3
    go_enter Try.func17, Try.ntmps17
    go_wp2_with fail
    refine Hc.out.mono ?_
    rintro e w' ⟨rfl, rfl⟩
    go_wp2_with fail
    refine Hs.out.mono ?_
    rintro e w' ⟨rfl, rfl⟩
    go_wp2_with fail
    go_ret
    rw [hfin.out]
    exact ⟨rfl, rfl⟩
set_option maxHeartbeats 400000 in
theorem len_any (h : DevIs w d D F A c bs Fs) (z : Int) : Calls Try.prog 21 #[.pointer (some ⟨d, 0, none⟩), .int .i64 z] w fun e w' => e = .returned (.int .i64 (D.lenOf z)) ∧ w = w' := by
  by_cases hz : z < 0 ∨ (D.zs.length : Int) ≤ z
  · have hfin := hide (Dv.lenOf_out hz)
    have Hc := hide (has_no h z hz)
    clear h hz
    go_enter Try.func21, Try.ntmps21
    go_wp2_with fail
    refine Hc.out.mono ?_
    rintro e w' ⟨rfl, rfl⟩
    go_wp2_with fail
    go_ret
    rw [hfin.out]
    exact ⟨rfl, rfl⟩
  · obtain ⟨k, rfl⟩ := Int.eq_ofNat_of_zero_le (show 0 ≤ z by omega)
    have hk : k < D.zs.length := by omega
    have hfin := hide (Dv.lenOf_in hk)
    have Hc := hide (has_yes h k hk)
    obtain ⟨c0, -⟩ := h.cells
    obtain ⟨g, rfl, hlc, hk', cg, -⟩ := h.at_ hk
    obtain ⟨zA, zc, hzb, -⟩ := h.zone k hk hk'
    have z0 : w.cell? ⟨bs[k], 0, none⟩ = some (.slice zA D.zs[k].L.length zc) := hzb.cell 0
    have Hs := hide (ZD.len_any bs[k] _ _ _ w z0)
    clear h hz hzb z0
    go_enter Try.func21, Try.ntmps21
    go_wp2_with fail
    refine Hc.out.mono ?_
    rintro e w' ⟨rfl, rfl⟩
    go_wp2_with fail
    refine Hs.out.mono ?_
    rintro e w' ⟨rfl, rfl⟩
    go_wp2_with fail
    go_ret
    rw [hfin.out]
    exact ⟨rfl, rfl⟩
end
end Go.Proofs.Ytdinbhanekpjoaa.DM
