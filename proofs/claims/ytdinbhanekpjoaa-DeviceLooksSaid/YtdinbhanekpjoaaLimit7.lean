/-
  No step but Revive opens a zone where as many are open as may be: the plain law.
-/
import Derived.Test.YtdinbhanekpjoaaPlay7
namespace Go.Proofs.Ytdinbhanekpjoaa
open Go.RowKit
namespace Dv
/-- States are numbers from 0 on. -/
def Lo (D : Dv) : Prop := ∀ x ∈ D.zs, 0 ≤ x.state
section
variable {D : Dv} {o : OpV}
theorem Lo.put (h : D.Lo) (k : Nat) (z : Zn Sec) (hz : 0 ≤ z.state) : (D.put k z).Lo := fun x hx => by
  rcases List.mem_or_eq_of_mem_set hx with h1 | rfl
  · exact h x h1
  · exact hz
theorem Lo.tick (h : D.Lo) : D.tick.Lo := h
theorem Lo.begin (h : D.Lo) (z : Int) : (D.begin_ z).1.Lo := by
  rcases R7.begin_fst D z with e | e <;> rw [e]
  · exact h
  · exact h
theorem Lo.get (h : D.Lo) {k : Nat} {x : Zn Sec} (hx : D.zs[k]? = some x) : 0 ≤ x.state := h x (List.mem_of_getElem? hx)
theorem Lo.mapTo (h : D.Lo) (f : Nat → Zn Sec → Zn Sec) (k : Nat) (hf : ∀ i x, 0 ≤ x.state → 0 ≤ (f i x).state) : (D.mapTo f k).Lo := fun x hx => by
  obtain ⟨i, hi, rfl⟩ := List.getElem_of_mem hx
  have hi' : i < D.zs.length := by have := (like_mapTo D f k).len; omega
  have hx := h _ (List.getElem_mem hi')
  simp only [Dv.mapTo, List.getElem_mapIdx]
  split
  · exact hf i _ hx
  · exact hx
theorem lo_append {z : Zn Sec} {s : Sec} (h : 0 ≤ z.state) : 0 ≤ (z.append s).1.state := by
  unfold Zn.append
  split
  · exact h
  · split
    · exact h
    · dsimp only
      split <;> omega
theorem lo_crash {z : Zn Sec} {k : Int} (h : 0 ≤ z.state) : 0 ≤ (z.crash k).state := by
  unfold Zn.crash
  dsimp only
  split
  · exact h
  · split
    · omega
    · split <;> omega
theorem lo_fail {z : Zn Sec} {s : Int} (h : 0 ≤ z.state) : 0 ≤ (z.fail s).state := by
  unfold Zn.fail
  split
  · dsimp only; omega
  · exact h
theorem lo_reset {z : Zn Sec} (h : 0 ≤ z.state) : 0 ≤ z.reset.1.state := by
  unfold Zn.reset
  split
  · exact h
  · simp
theorem lo_finish {z : Zn Sec} (h : 0 ≤ z.state) : 0 ≤ z.finish.1.state := by
  unfold Zn.finish
  split
  · exact h
  · simp
theorem lo_change {z : Zn Sec} {f : Sec → Sec} {off : Int} (h : 0 ≤ z.state) : 0 ≤ (z.change f off).1.state := by
  unfold Zn.change
  split
  · exact h
  · exact h
theorem play_lo (h : D.Lo) (o : OpV) : (D.play o).Lo := by
  unfold play
  split
  · unfold append
    split
    · exact h.begin _
    · split
      · rename_i x hx
        split
        · exact h
        · exact h.tick.put _ _ (lo_append (h.get hx))
      · exact h
  split
  · unfold read
    split
    · exact h.begin _
    · split
      · exact h
      · exact h
  split
  · unfold reset answer
    split
    · exact h.begin _
    · split
      · rename_i x hx
        exact h.tick.put _ _ (lo_reset (h.get hx))
      · exact h
  split
  · unfold finish answer
    split
    · exact h.begin _
    · split
      · rename_i x hx
        exact h.tick.put _ _ (lo_finish (h.get hx))
      · exact h
  split
  · unfold flush
    split
    · exact h
    · exact h.tick.mapTo _ _ (fun _ x hx => hx)
  split
  · exact h
  split
  · unfold revive
    split
    · exact h.mapTo _ _ (fun _ x hx => lo_crash hx)
    · exact h
  split
  · unfold fail
    split
    · exact h
    · split
      · rename_i x hx
        exact h.put _ _ (lo_fail (h.get hx))
      · exact h
  split
  · unfold spoil
    split
    · exact h
    · split
      · rename_i x hx
        exact h.put _ _ (lo_change (h.get hx))
      · exact h
  · exact h

theorem opened_put {k : Nat} {x : Zn Sec} (hx : D.zs[k]? = some x) (z : Zn Sec) : (D.put k z).opened = D.opened - (if x.state = 1 then 1 else 0) + (if z.state = 1 then 1 else 0) := by
  have hk : k < D.zs.length := (List.getElem?_eq_some_iff.1 hx).1
  have e : D.zs[k] = x := (List.getElem?_eq_some_iff.1 hx).2
  unfold opened put
  rw [List.countP_set hk, e]
  simp only [beq_iff_eq]
theorem opened_pos {k : Nat} {x : Zn Sec} (hx : D.zs[k]? = some x) (h1 : x.state = 1) : 0 < D.opened :=
  List.countP_pos_iff.2 ⟨x, List.mem_of_getElem? hx, by simp [h1]⟩
theorem opened_put_le {k : Nat} {x : Zn Sec} (hx : D.zs[k]? = some x) (z : Zn Sec) (h : z.state = 1 → x.state = 1) : (D.put k z).opened ≤ D.opened := by
  rw [opened_put hx]
  by_cases h1 : z.state = 1
  · have := opened_pos hx (h h1)
    rw [if_pos h1, if_pos (h h1)]
    omega
  · rw [if_neg h1]
    omega
theorem opened_mapTo (f : Nat → Zn Sec → Zn Sec) (k : Nat) (hf : ∀ i x, (f i x).state = x.state) : (D.mapTo f k).opened = D.opened := by
  unfold opened
  have e : ∀ l : List (Zn Sec), l.countP (fun z => z.state == 1) = (l.map Zn.state).countP (· == 1) := fun l => by rw [List.countP_map]; rfl
  rw [e, e]
  congr 1
  apply List.ext_getElem
  · simp [mapTo]
  · intro i h1 h2
    simp only [mapTo, List.getElem_map, List.getElem_mapIdx]
    split
    · exact hf i _
    · rfl
/-- A step other than Revive: no more zones are open than may be, or no more than were. -/
theorem play_limit (h : D.Lo) (hO : ∃ m, D.Ok m) (h7 : ¬ o.kind = 7) : (D.play o).opened ≤ D.opened ∨ ((D.play o).opened : Int) ≤ D.op := by
  obtain ⟨m, hO⟩ := hO
  have same : ∀ {D' : Dv}, D'.zs = D.zs → D'.opened ≤ D.opened ∨ (D'.opened : Int) ≤ D.op := fun e => .inl (by unfold opened; rw [e]; exact Nat.le_refl _)
  have hbeg : ∀ z, (D.begin_ z).1.zs = D.zs := fun z => by rcases R7.begin_fst D z with e | e <;> rw [e] <;> rfl
  unfold play
  split
  · unfold append
    split
    · exact same (hbeg _)
    · split
      · rename_i x hx
        split
        · exact same rfl
        · rename_i hno
          have hx' : D.tick.zs[o.zone.toNat]? = some x := hx
          have ho : D.tick.opened = D.opened := rfl
          have hlo := h.get hx
          have hhi := (hO.get hx).2.2.1
          dsimp only
          by_cases h1 : (x.append o.s).1.state = 1 → x.state = 1
          · left; rw [← ho]; exact opened_put_le hx' _ h1
          · have hn : (x.append o.s).1.state = 1 ∧ ¬ x.state = 1 := by
              constructor
              · exact Classical.byContradiction fun h2 => h1 (fun h3 => absurd h3 h2)
              · exact fun h2 => h1 (fun _ => h2)
            have h0 : x.state = 0 := by
              have hn1 := hn.1
              unfold Zn.append at hn1
              split at hn1
              · exact absurd hn1 hn.2
              · rename_i hf
                split at hn1
                · exact absurd hn1 hn.2
                · rename_i h2
                  have hf' : failedOf x.state = 0 := by simpa using hf
                  have hn2 := hn.2
                  have : x.state ≠ 3 ∧ x.state ≠ 4 := by
                    constructor <;> intro e <;> rw [e] at hf' <;> simp [failedOf] at hf'
                  omega
            have hlt : ¬ D.op ≤ (D.opened : Int) := fun h3 => hno ⟨h0, h3⟩
            right
            rw [opened_put hx', if_pos hn.1, if_neg hn.2, ho]
            omega
      · exact same rfl
  split
  · unfold read
    split
    · exact same (hbeg _)
    · split <;> exact same rfl
  split
  · unfold reset answer
    split
    · exact same (hbeg _)
    · split
      · rename_i x hx
        left
        exact opened_put_le (D := D.tick) hx _ (by
          unfold Zn.reset
          split
          · exact fun h => h
          · intro h; simp at h)
      · exact same rfl
  split
  · unfold finish answer
    split
    · exact same (hbeg _)
    · split
      · rename_i x hx
        left
        exact opened_put_le (D := D.tick) hx _ (by
          unfold Zn.finish
          split
          · exact fun h => h
          · intro h; simp at h)
      · exact same rfl
  split
  · unfold flush
    split
    · exact same rfl
    · left
      exact Nat.le_of_eq (opened_mapTo (D := D.tick) (fun _ z => z.flush) _ (fun _ _ => rfl))
  split
  · exact same rfl
  split
  · unfold fail
    split
    · exact same rfl
    · split
      · rename_i x hx
        left
        exact opened_put_le hx _ (by
          unfold Zn.fail
          split
          · intro h; dsimp only at h; omega
          · exact fun h => h)
      · exact same rfl
  split
  · unfold spoil
    split
    · exact same rfl
    · split
      · rename_i x hx
        left
        exact opened_put_le hx _ (by
          unfold Zn.change
          split <;> exact fun h => h)
      · exact same rfl
  · exact same rfl
end
end Dv
end Go.Proofs.Ytdinbhanekpjoaa
