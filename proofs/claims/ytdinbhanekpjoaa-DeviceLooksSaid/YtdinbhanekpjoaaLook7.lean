/-
  DeviceLooks in plain words: what a round over a zone's sectors keeps.
-/
import Derived.Test.YtdinbhanekpjoaaRel7
namespace Go.Proofs.Ytdinbhanekpjoaa
open Go.RowKit
/-- Zone j has as many sectors as L0, from place k on the same, and its state is st. -/
structure LookOk (n m j : Nat) (L0 : List Sec) (st : Int) (k : Nat) (D : Dv) : Prop where
  len : D.zs.length = n
  down : D.down = false
  cnt : D.n ≤ m + k
  short : ∀ x ∈ D.zs, x.L.length ≤ 60
  at_ : ∃ z, D.zs[j]? = some z ∧ z.state = st ∧ z.L.length = L0.length ∧ ∀ i, k ≤ i → z.L[i]? = L0[i]?
/-- A sector is spoilt and read: all that is told. -/
structure LookStep (n m j : Nat) (L0 : List Sec) (st : Int) (k : Nat) (p : Sec) (D D1 : Dv) : Prop where
  spoil : D.spoil (j : Int) (k : Int) p = (D1, 0)
  n1 : D1.n = D.n
  len1 : D1.zs.length = n
  short1 : ∀ x ∈ D1.zs, x.L.length ≤ 60
  off : st = 4 → D1.read (j : Int) (k : Int) = (D1.tick, Sec.zero, 32)
  on : ∀ h : k < L0.length, st ≠ 4 → D1.read (j : Int) (k : Int) = (D1.tick, L0[k].xor p, 0)
  state : D1.tick.stateOf (j : Int) = st
  next : LookOk n m j L0 st (k + 1) D1.tick
theorem LookOk.step {n m j : Nat} {L0 : List Sec} {st : Int} {k : Nat} {D : Dv} (h : LookOk n m j L0 st k D) (p : Sec) (hj : j < n) (hk : k < L0.length) : ∃ D1, LookStep n m j L0 st k p D D1 := by
  obtain ⟨hlen, hdown, hcnt, hshort, z, hz, hst, hzl, hat⟩ := h
  have hj' : j < D.zs.length := by omega
  have hzj : D.zs[j] = z := by rw [List.getElem?_eq_getElem hj'] at hz; exact Option.some.inj hz
  have hkz : k < z.L.length := by omega
  have hzk : z.L[k] = L0[k] := by
    have := hat k (Nat.le_refl k)
    rw [List.getElem?_eq_getElem hkz, List.getElem?_eq_getElem hk] at this
    exact Option.some.inj this
  have hlen1 : (D.put j { z with L := z.L.set k (z.L[k].xor p) }).zs.length = n := by simpa [Dv.put] using hlen
  have hget1 : (D.put j { z with L := z.L.set k (z.L[k].xor p) }).zs[j]'(by omega) = { z with L := z.L.set k (z.L[k].xor p) } := by simp [Dv.put]
  have hd1 : ¬ (D.put j { z with L := z.L.set k (z.L[k].xor p) }).down = true := by show ¬ D.down = true; rw [hdown]; simp
  have hsh1 : ∀ x ∈ (D.put j { z with L := z.L.set k (z.L[k].xor p) }).zs, x.L.length ≤ 60 := fun x hx => by
    rcases List.mem_or_eq_of_mem_set hx with h1 | rfl
    · exact hshort x h1
    · have := hshort z (hzj ▸ List.getElem_mem hj'); simpa using this
  refine ⟨D.put j { z with L := z.L.set k (z.L[k].xor p) }, ?_, rfl, hlen1, hsh1, ?_, ?_, ?_, ?_⟩
  · rw [Dv.spoil_in (k : Int) p hj', hzj, Zn.change_in _ _ hkz]
  · intro h4
    rw [Dv.read_in (k : Int) hd1 (by omega), hget1, Zn.read_off _ _ (by show z.state = 4; omega)]
  · intro _ h4
    rw [Dv.read_in (k : Int) hd1 (by omega), hget1, Zn.read_in _ k (by show ¬ z.state = 4; omega) (by show k < (z.L.set k _).length; simpa using hkz)]
    simp [hzk]
  · rw [Dv.stateOf_in (show j < (D.put j { z with L := z.L.set k (z.L[k].xor p) }).tick.zs.length by show j < (D.put j _).zs.length; omega)]
    show ((D.put j { z with L := z.L.set k (z.L[k].xor p) }).zs[j]'(by omega)).state = st
    rw [hget1]; exact hst
  · refine ⟨hlen1, hdown, by show D.n + 1 ≤ _; omega, hsh1, { z with L := z.L.set k (z.L[k].xor p) }, ?_, hst, by simpa using hzl, fun i hi => ?_⟩
    · show (D.put j { z with L := z.L.set k (z.L[k].xor p) }).zs[j]? = _
      rw [List.getElem?_eq_getElem (by omega), hget1]
    · show (z.L.set k _)[i]? = _
      rw [List.getElem?_set_ne (by omega)]
      exact hat i (by omega)
/-- Between two zones. -/
structure LooksOk (n m : Nat) (D : Dv) : Prop where
  len : D.zs.length = n
  down : D.down = false
  cnt : D.n ≤ m
  short : ∀ x ∈ D.zs, x.L.length ≤ 60
theorem LooksOk.enter {n m j : Nat} {D : Dv} (h : LooksOk n m D) (hj : j < D.zs.length) : LookOk n m j D.zs[j].L D.zs[j].state 0 D :=
  ⟨h.len, h.down, h.cnt, h.short, D.zs[j], List.getElem?_eq_getElem hj, rfl, rfl, fun _ _ => rfl⟩
theorem LookOk.leave {n m j : Nat} {L0 : List Sec} {st : Int} {D : Dv} (h : LookOk n m j L0 st L0.length D) (hL : L0.length ≤ 60) : LooksOk n (m + 60) D := ⟨h.len, h.down, by have := h.cnt; omega, h.short⟩
end Go.Proofs.Ytdinbhanekpjoaa
