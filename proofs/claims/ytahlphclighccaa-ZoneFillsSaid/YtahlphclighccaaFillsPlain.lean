/-
  The plain law of ZoneFills: what a zone is when the first k of a list have been appended.
-/
import Derived.Test.YtahlphclighccaaZKit
namespace Go.Proofs.Ytahlphclighccaa

def filled {α : Type} (s : Nat) (l : List α) (k : Nat) : Zn α :=
  { L := l.take (min k s), size := s, safe := 0, state := if k = 0 then 0 else if s ≤ k then 2 else 1, fin := false }

theorem filled_zero {α : Type} (s : Nat) (l : List α) : filled s l 0 = Zn.new s := by simp [filled, Zn.new]

theorem filled_len {α : Type} (s : Nat) (l : List α) (k : Nat) (hk : k ≤ l.length) : (filled s l k).L.length = min k s := by
  simp [filled]; omega

theorem filled_in {α : Type} (s : Nat) (l : List α) (k : Nat) (hk : k < l.length) (h : k < s) : (filled s l k).append l[k] = (filled s l (k + 1), (k : Int), 0) := by
  have hf : failedOf (filled s l k).state = 0 := by
    unfold filled failedOf; simp only; split <;> (try split) <;> simp_all
  have h2 : ¬ (filled s l k).state = 2 := by
    unfold filled; simp only; split <;> (try split) <;> simp_all; omega
  have hlen := filled_len s l k (by omega)
  have hL : (filled s l k).L ++ [l[k]] = (filled s l (k + 1)).L := by
    simp only [filled]
    rw [show min k s = k by omega, show min (k + 1) s = k + 1 by omega, List.take_succ_eq_append_getElem hk]
  by_cases hl : k + 1 = s
  · rw [Zn.append_last _ hf h2 (by rw [hlen]; show _ = ((filled s l k).size); simp only [filled]; omega), hlen, hL]
    have : (k : Int) = ((min k s : Nat) : Int) := by omega
    rw [← this]
    simp only [filled]
    rw [if_neg (by omega), if_pos (by omega)]
  · rw [Zn.append_more _ hf h2 (by rw [hlen]; show ¬ _ = ((filled s l k).size); simp only [filled]; omega), hlen, hL]
    have : (k : Int) = ((min k s : Nat) : Int) := by omega
    rw [← this]
    simp only [filled]
    rw [if_neg (by omega), if_neg (by omega)]

theorem filled_out {α : Type} (s : Nat) (l : List α) (k : Nat) (hs : 1 ≤ s) (hk : k < l.length) (h : s ≤ k) : (filled s l k).append l[k] = (filled s l (k + 1), 0, 17) := by
  have h2 : (filled s l k).state = 2 := by
    unfold filled; simp only; rw [if_neg (by omega), if_pos h]
  have hf : failedOf (filled s l k).state = 0 := by rw [h2]; rfl
  rw [Zn.append_full _ hf h2]
  simp only [filled]
  rw [show min k s = s by omega, show min (k + 1) s = s by omega, if_neg (by omega), if_pos h, if_neg (by omega), if_pos (by omega)]

theorem filled_state {α : Type} (s : Nat) (l : List α) (k : Nat) (hs : 1 ≤ s) : ((filled s l k).state == 2) = decide (s ≤ k) := by
  unfold filled
  simp only
  split
  · simp; omega
  · split <;> simp_all

theorem filled_read {α : Type} (s : Nat) (l : List α) (k n : Nat) (d : α) (hn : n ≤ l.length) (hk : k < min n s) (hl : k < l.length) : (filled s l n).read d (k : Int) = (l[k], 0) := by
  have h4 : ¬ (filled s l n).state = 4 := by unfold filled; simp only; split <;> (try split) <;> simp
  rw [Zn.read_in d k h4 (by rw [filled_len s l n hn]; exact hk)]
  simp [filled]

theorem filled_reset {α : Type} (s : Nat) (l : List α) (k : Nat) : (filled s l k).reset = (Zn.new s, 0) := by
  have hf : failedOf (filled s l k).state = 0 := by
    unfold filled failedOf; simp only; split <;> (try split) <;> simp_all
  rw [Zn.reset_ok hf]; rfl

end Go.Proofs.Ytahlphclighccaa
