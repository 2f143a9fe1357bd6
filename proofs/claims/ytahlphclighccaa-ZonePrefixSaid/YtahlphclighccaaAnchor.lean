/-
  The anchor of the laws of chapter 06: it answers true, and leaves what was there as it was.
-/
import Derived.Test.YtahlphclighccaaZIC
namespace Go.Proofs.Ytahlphclighccaa.ZI
open Go.RowKit

def a1 : Zn Int := { L := [1], size := 4, safe := 0, state := 1, fin := false }
def a2 : Zn Int := { L := [1, 2], size := 4, safe := 0, state := 1, fin := false }
def a3 : Zn Int := { L := [1, 2], size := 4, safe := 2, state := 1, fin := false }
def a4 : Zn Int := { L := [1, 2, 3], size := 4, safe := 2, state := 1, fin := false }
theorem ea1 : (Zn.new 4 : Zn Int).append 1 = (a1, 0, 0) := by rfl
theorem ea2 : a1.append 2 = (a2, 1, 0) := by rfl
theorem ea3 : a2.flush = a3 := by rfl
theorem ea4 : a3.append 3 = (a4, 2, 0) := by rfl
theorem ea5 : a4.crash 0 = a3 := by rfl

set_option maxHeartbeats 1000000 in
theorem anchor_any (w : World) : Calls Try.prog 7 #[] w fun e w' => e = .returned (.bool true) ∧ Below w.heap.size w w' := by
  go_enter Try.func7, Try.ntmps7
  go_wp2_with fail
  refine (new_any 4 _ (by omega) (by omega)).mono ?_
  rintro e w1 ⟨rfl, hmade⟩
  obtain ⟨F1, hz1, hb1, hf1⟩ := hmade.below
  have hs1 := hb1.size
  clear hmade
  go_wp2_with fail
  refine (append_any (Zn.new 4) 1 _ _ F1 hz1 (by simp [Zn.new])).mono ?_
  rw [ea1]
  rintro e w2 ⟨rfl, hd⟩
  obtain ⟨F2, hz2, hb2, hs2, hf2⟩ := hd.below hb1 hs1 hf1
  clear hd
  go_wp2_with fail
  refine (append_any a1 2 _ _ F2 hz2 (by simp [a1])).mono ?_
  rw [ea2]
  rintro e w3 ⟨rfl, hd⟩
  obtain ⟨F3, hz3, hb3, hs3, hf3⟩ := hd.below hb2 hs2 hf2
  clear hd
  go_wp2_with fail
  refine (flush_any a2 _ _ F3 hz3).mono ?_
  rw [ea3]
  rintro e w4 ⟨rfl, hd⟩
  obtain ⟨F4, hz4, hb4, hs4, hf4⟩ := hd.below hb3 hs3 hf3
  clear hd
  go_wp2_with fail
  refine (append_any a3 3 _ _ F4 hz4 (by simp [a3])).mono ?_
  rw [ea4]
  rintro e w5 ⟨rfl, hd⟩
  obtain ⟨F5, hz5, hb5, hs5, hf5⟩ := hd.below hb4 hs4 hf4
  clear hd
  go_wp2_with fail
  refine (crash_any a4 0 _ _ F5 hz5 (by simp [a4]) (by simp [a4])).mono ?_
  rw [ea5]
  rintro e w6 ⟨rfl, hd⟩
  obtain ⟨F6, hz6, hb6, hs6, hf6⟩ := hd.below hb5 hs5 hf5
  clear hd
  obtain ⟨A, c, k0, k2, k3⟩ := hz6.cells
  clear hz1 hz2 hz3 hz4 hz5 hz6 hf1 hf2 hf3 hf4 hf5 hf6 hs1 hs2 hs3 hs4 hs5 hs6
  have k0' : w6.cell? ⟨w.heap.size, 0, none⟩ = some (.slice A 2 c) := k0
  have k2' : w6.cell? ⟨w.heap.size, 2, none⟩ = some (.int .i64 ((2 : Nat) : Int)) := k2
  have k3' : w6.cell? ⟨w.heap.size, 3, none⟩ = some (.int .i64 1) := k3
  clear k0 k2 k3
  go_wp2_with fail
  refine (len_any _ _ _ _ _ k0').mono ?_
  rintro e w7 ⟨rfl, rfl⟩
  go_wp2_with fail
  refine (state_any _ _ _ k3').mono ?_
  rintro e w7 ⟨rfl, rfl⟩
  go_wp2_with fail
  refine (safe_any _ _ _ k2').mono ?_
  rintro e w7 ⟨rfl, rfl⟩
  go_wp2_with fail
  go_ret
  exact ⟨rfl, hb6⟩
end Go.Proofs.Ytahlphclighccaa.ZI
