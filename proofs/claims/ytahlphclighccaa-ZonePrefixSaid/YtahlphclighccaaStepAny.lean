/-
  step (revetmentlaw06), every kind at once; and what holds of every zone that steps make.
-/
import Derived.Test.YtahlphclighccaaStep
namespace Go.Proofs.Ytahlphclighccaa
open Go.RowKit

/-- Do both answer alike? -/
def stepB (z u : Zn Int) (k x y : Int) : Bool :=
  if k = 1 then ((z.append x).2.1 == (u.append x).2.1 && (z.append x).2.2 == (u.append x).2.2)
  else if k = 2 then ((z.read 0 x).1 == (u.read 0 x).1 && (z.read 0 x).2 == (u.read 0 x).2)
  else if k = 3 then (z.reset.2 == u.reset.2) else if k = 4 then (z.finish.2 == u.finish.2)
  else if k = 8 then ((z.change (xor64 · y) x).2 == (u.change (xor64 · y) x).2) else true

theorem stepB_self (z : Zn Int) (k x y : Int) : stepB z z k x y = true := by
  unfold stepB
  repeat' split
  all_goals simp

theorem step_any (z u : Zn Int) (k x y : Int) (b : Nat) (A : Option Addr) (c : Nat) (w : World) (F G : Nat → Prop) (h : Both w b z A c u F G) (hn : z.L.length < 65536) (hnu : u.L.length < 65536) (hs : z.safe ≤ z.L.length) (hsu : u.safe ≤ u.L.length) (h4u : u.state ≤ 4) :
    Calls Try.prog 24 #[.pointer (some ⟨b, 0, none⟩), .agg #[.slice A u.L.length c, .int .i64 u.size, .int .i64 (u.safe : Int), .int .i64 u.state, .bool u.fin], .agg #[.int .i64 k, .int .i64 x, .int .i64 y]] w
      (Stepped w F G b (stepZ z k x y) (stepZ u k x y) (stepB z u k x y)) := by
  by_cases h1 : k = 1
  · subst h1; exact step_append z u x y b A c w F G h hn hnu hs hsu h4u
  by_cases h2 : k = 2
  · subst h2; exact step_read z u x y b A c w F G h hn hnu hs hsu h4u
  by_cases h3 : k = 3
  · subst h3; exact step_reset z u x y b A c w F G h hn hnu hs hsu h4u
  by_cases h4 : k = 4
  · subst h4; exact step_finish z u x y b A c w F G h hn hnu hs hsu h4u
  by_cases h5 : k = 5
  · subst h5; exact step_flush z u x y b A c w F G h hn hnu hs hsu h4u
  by_cases h6 : k = 6
  · subst h6; exact step_crash z u x y b A c w F G h hn hnu hs hsu h4u
  by_cases h7 : k = 7
  · subst h7; exact step_fail z u x y b A c w F G h hn hnu hs hsu h4u
  by_cases h8 : k = 8
  · subst h8; exact step_change z u x y b A c w F G h hn hnu hs hsu h4u
  have e1 : stepZ z k x y = z := by simp [stepZ, h1, h3, h4, h5, h6, h7, h8]
  have e2 : stepZ u k x y = u := by simp [stepZ, h1, h3, h4, h5, h6, h7, h8]
  have e3 : stepB z u k x y = true := by simp [stepB, h1, h2, h3, h4, h8]
  rw [e1, e2, e3]
  exact step_other z u k x y (by omega) b A c w F G h

theorem new_ok (s : Int) (h1 : 1 ≤ s) (h2 : s ≤ 64) : (Zn.new s : Zn Int).Ok := by
  refine ⟨h1, h2, ?_, ?_, ?_, ?_, ?_⟩ <;> simp [Zn.new] <;> omega

theorem failedOf_cases (s : Int) (h : failedOf s = 0) : s ≠ 4 ∧ s ≠ 3 := by
  unfold failedOf at h
  split at h
  · omega
  · split at h
    · omega
    · exact ⟨by assumption, by assumption⟩

theorem stepZ_ok {z : Zn Int} (h : z.Ok) (k x y : Int) : (stepZ z k x y).Ok := by
  obtain ⟨h1, h2, h3, h4, h5, h6, h7⟩ := h
  unfold stepZ
  split
  · by_cases hf : failedOf z.state = 0
    · by_cases hs : z.state = 2
      · rw [Zn.append_full x hf hs]; exact ⟨h1, h2, h3, h4, h5, h6, h7⟩
      · have hc := failedOf_cases _ hf
        have hr := h4 (by omega)
        by_cases hl : ((z.L.length + 1 : Nat) : Int) = z.size
        · rw [Zn.append_last x hf hs hl]; refine ⟨h1, h2, ?_, ?_, ?_, ?_, ?_⟩ <;> simp <;> omega
        · rw [Zn.append_more x hf hs hl]; refine ⟨h1, h2, ?_, ?_, ?_, ?_, ?_⟩ <;> simp <;> omega
    · rw [Zn.append_failed x hf]; exact ⟨h1, h2, h3, h4, h5, h6, h7⟩
  split
  · by_cases hf : failedOf z.state = 0
    · rw [Zn.reset_ok hf]; refine ⟨h1, h2, ?_, ?_, ?_, ?_, ?_⟩ <;> simp <;> omega
    · rw [Zn.reset_failed hf]; exact ⟨h1, h2, h3, h4, h5, h6, h7⟩
  split
  · by_cases hf : failedOf z.state = 0
    · rw [Zn.finish_ok hf]; refine ⟨h1, h2, ?_, ?_, ?_, ?_, ?_⟩ <;> simp <;> omega
    · rw [Zn.finish_failed hf]; exact ⟨h1, h2, h3, h4, h5, h6, h7⟩
  split
  · refine ⟨h1, h2, h3, h4, ?_, h6, h7⟩; simp [Zn.flush]
  split
  · have hl := Zn.left_le x h5
    by_cases c3 : 3 ≤ z.state
    · rw [Zn.crash_failed x c3]; refine ⟨h1, h2, ?_, ?_, ?_, h6, h7⟩ <;> simp <;> omega
    · by_cases c2 : z.fin = true ∨ ((z.left x : Nat) : Int) = z.size
      · rw [Zn.crash_full x c3 c2]; refine ⟨h1, h2, ?_, ?_, ?_, ?_, ?_⟩ <;> simp <;> omega
      · by_cases c0 : z.left x = 0
        · rw [Zn.crash_empty x c3 c2 c0]; refine ⟨h1, h2, ?_, ?_, ?_, ?_, ?_⟩ <;> simp <;> omega
        · rw [Zn.crash_open x c3 c2 c0]
          have : ¬ ((z.left x : Nat) : Int) = z.size := fun e => c2 (.inr e)
          refine ⟨h1, h2, ?_, ?_, ?_, ?_, ?_⟩ <;> simp <;> omega
  split
  · by_cases hf : x = 4 ∨ (x = 3 ∧ z.state ≠ 4)
    · rw [Zn.fail_yes x hf]; refine ⟨h1, h2, h3, ?_, h5, ?_, ?_⟩ <;> simp <;> omega
    · rw [Zn.fail_no x hf]; exact ⟨h1, h2, h3, h4, h5, h6, h7⟩
  split
  · by_cases ho : x < 0 ∨ (z.L.length : Int) ≤ x
    · rw [Zn.change_out _ x ho]; exact ⟨h1, h2, h3, h4, h5, h6, h7⟩
    · obtain ⟨k, rfl⟩ := Int.eq_ofNat_of_zero_le (show 0 ≤ x by omega)
      rw [Zn.change_in _ k (by omega)]
      refine ⟨h1, h2, ?_, ?_, ?_, h6, h7⟩ <;> simp <;> omega
  · exact ⟨h1, h2, h3, h4, h5, h6, h7⟩

theorem Zn.Ok.lt {z : Zn Int} (h : z.Ok) : z.L.length < 65536 := by have := h.size_hi; have := h.len; omega
end Go.Proofs.Ytahlphclighccaa
