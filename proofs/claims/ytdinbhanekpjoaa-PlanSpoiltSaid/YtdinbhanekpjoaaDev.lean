/-
  A device of zones: its plain form, and how it lies in memory.
-/
import Derived.Test.YtdinbhanekpjoaaZDX
namespace Go.Proofs.Ytdinbhanekpjoaa
open Go.RowKit

/-- The plain form of a device. -/
structure Dv where
  zs : List (Zn Sec)
  size : Int
  op : Int
  n : Nat
  down : Bool
namespace Dv
def opened (D : Dv) : Nat := D.zs.countP fun z => z.state == 1
def put (D : Dv) (k : Nat) (z : Zn Sec) : Dv := { D with zs := D.zs.set k z }
def tick (D : Dv) : Dv := { D with n := D.n + 1 }
def begin_ (D : Dv) (z : Int) : Dv × Int := if D.down = true then (D, 34) else if z < 0 ∨ (D.zs.length : Int) ≤ z then (D, 13) else (D.tick, 0)
theorem begin_down {D : Dv} (z : Int) (h : D.down = true) : D.begin_ z = (D, 34) := by rw [begin_, if_pos h]
theorem begin_out {D : Dv} (z : Int) (h : ¬ D.down = true) (h2 : z < 0 ∨ (D.zs.length : Int) ≤ z) : D.begin_ z = (D, 13) := by rw [begin_, if_neg h, if_pos h2]
theorem begin_in {D : Dv} (k : Nat) (h : ¬ D.down = true) (h2 : k < D.zs.length) : D.begin_ (k : Int) = (D.tick, 0) := by rw [begin_, if_neg h, if_neg (by omega)]
def stateOf (D : Dv) (z : Int) : Int := if z < 0 ∨ (D.zs.length : Int) ≤ z then 4 else (D.zs[z.toNat]?.map Zn.state).getD 4
def lenOf (D : Dv) (z : Int) : Int := if z < 0 ∨ (D.zs.length : Int) ≤ z then 0 else ((D.zs[z.toNat]?.map fun z => z.L.length).getD 0 : Nat)
theorem stateOf_out {D : Dv} {z : Int} (h : z < 0 ∨ (D.zs.length : Int) ≤ z) : D.stateOf z = 4 := by rw [stateOf, if_pos h]
theorem stateOf_in {D : Dv} {k : Nat} (h : k < D.zs.length) : D.stateOf (k : Int) = D.zs[k].state := by rw [stateOf, if_neg (by omega)]; simp [h]
theorem lenOf_out {D : Dv} {z : Int} (h : z < 0 ∨ (D.zs.length : Int) ≤ z) : D.lenOf z = 0 := by rw [lenOf, if_pos h]
theorem lenOf_in {D : Dv} {k : Nat} (h : k < D.zs.length) : D.lenOf (k : Int) = (D.zs[k].L.length : Nat) := by rw [lenOf, if_neg (by omega)]; simp [h]
end Dv

/-- A pointer to block b. -/
def ptr (b : Nat) : Value := .pointer (some ⟨b, 0, none⟩)

/-- Block d is the device D; its zones lie at bs, zone i in the blocks Fs i; all its blocks are in F. -/
structure DevIs (w : World) (d : Nat) (D : Dv) (F : Nat → Prop) (A : Option Addr) (c : Nat) (bs : List Nat) (Fs : Nat → Nat → Prop) : Prop where
  blk : Blk w d 87 #[.slice A D.zs.length c, .int .i64 D.size, .int .i64 D.op, .int .i64 (D.n : Int), .bool D.down]
  len : bs.length = D.zs.length
  own : w.ownsRow 0 88 1 (.slice A D.zs.length c) D.zs.length (bs.map ptr)
  zone : ∀ i (h : i < D.zs.length) (h' : i < bs.length), ZD.At w bs[i] D.zs[i] (Fs i)
  apart : ∀ i j, i < D.zs.length → j < D.zs.length → i ≠ j → ∀ k, Fs i k → ¬ Fs j k
  noD : ∀ i, i < D.zs.length → ¬ Fs i d
  noR : ∀ g, (Value.slice A D.zs.length c).ownBlock = some g → g ≠ d ∧ ∀ i, i < D.zs.length → ¬ Fs i g
  inF : F d ∧ (∀ g, (Value.slice A D.zs.length c).ownBlock = some g → F g) ∧ ∀ i, i < D.zs.length → ∀ k, Fs i k → F k
  lt : ∀ k, F k → k < w.heap.size

/-- A call has turned the device at d into D'; what it turned besides it laid itself. -/
def DDid (w w' : World) (d : Nat) (D' : Dv) (F : Nat → Prop) (A : Option Addr) (c : Nat) (bs : List Nat) : Prop :=
  ∃ (F' : Nat → Prop) (Fs' : Nat → Nat → Prop), DevIs w' d D' F' A c bs Fs' ∧ Mods F w w' ∧ ∀ k, F' k → F k ∨ w.heap.size ≤ k

section
variable {w w' w0 : World} {d : Nat} {D D' : Dv} {F S : Nat → Prop} {A : Option Addr} {c : Nat} {bs : List Nat} {Fs : Nat → Nat → Prop}
theorem DevIs.mods (h : DevIs w d D F A c bs Fs) (hm : Mods S w w') (hd : ∀ k, F k → ¬ S k) : DevIs w' d D F A c bs Fs :=
  ⟨h.blk.mods hm (hd d h.inF.1), h.len, own_mods h.own hm (fun g hg => hd g (h.inF.2.1 g hg)), fun i hi hi' => (h.zone i hi hi').mods hm (fun k hk => hd k (h.inF.2.2 i hi k hk)), h.apart, h.noD, h.noR, h.inF,
    fun k hk => Nat.lt_of_lt_of_le (h.lt k hk) hm.size⟩
theorem DevIs.below (h : DevIs w d D F A c bs Fs) (hb : Below w.heap.size w w') : DevIs w' d D F A c bs Fs := h.mods (Mods.of_below hb (fun _ => False)) (fun _ _ h => h)
theorem DevIs.drewN (h : DevIs w d D F A c bs Fs) (n : Nat) : DevIs (w.drewN n) d D F A c bs Fs := h.mods ((Mods.refl (fun _ => False) w).drewN n) (fun _ _ h => h)
theorem DevIs.drew (h : DevIs w d D F A c bs Fs) : DevIs w.drew d D F A c bs Fs := h.mods ((Mods.refl (fun _ => False) w).drew) (fun _ _ h => h)
theorem DevIs.did (h : DevIs w d D F A c bs Fs) (hb : Below w.heap.size w w') : DDid w w' d D F A c bs := ⟨F, Fs, h.below hb, Mods.of_below hb _, fun _ hk => .inl hk⟩
theorem DevIs.same (h : DevIs w d D F A c bs Fs) : DDid w w d D F A c bs := ⟨F, Fs, h, Mods.refl _ _, fun _ hk => .inl hk⟩
/-- A cell of the device's own block is written. -/
theorem DevIs.own_set (h : DevIs w d D F A c bs Fs) (i : Nat) (v : Value) (hB : Blk (w.setCell ⟨d, i, none⟩ v) d 87 #[.slice A D.zs.length c, .int .i64 D'.size, .int .i64 D'.op, .int .i64 (D'.n : Int), .bool D'.down]) (hz : D'.zs = D.zs) :
    DevIs (w.setCell ⟨d, i, none⟩ v) d D' F A c bs Fs := by
  have hm : Mods (fun k => k = d) w (w.setCell ⟨d, i, none⟩ v) := (Mods.refl (fun k => k = d) w).setCell (p := ⟨d, i, none⟩) (.inl rfl) v
  refine ⟨by rw [hz]; exact hB, by rw [hz]; exact h.len, by rw [hz]; exact own_mods h.own hm (fun g hg => (h.noR g hg).1), ?_, by rw [hz]; exact h.apart, by rw [hz]; exact h.noD, by rw [hz]; exact h.noR, by rw [hz]; exact h.inF, fun k hk => Nat.lt_of_lt_of_le (h.lt k hk) hm.size⟩
  intro i hi hi'
  have hi2 : i < D.zs.length := by rw [← hz]; exact hi
  have e : D'.zs[i] = D.zs[i] := by simp only [hz]
  rw [e]
  exact (h.zone i hi2 hi').mods hm (fun k hk e => h.noD i hi2 (e ▸ hk))
theorem DevIs.count (h : DevIs w d D F A c bs Fs) : DevIs (w.setCell ⟨d, 3, none⟩ (.int .i64 ((D.n + 1 : Nat) : Int))) d D.tick F A c bs Fs :=
  h.own_set 3 _ (h.blk.set_ 3 _) rfl
theorem DevIs.downTo (h : DevIs w d D F A c bs Fs) (b : Bool) : DevIs (w.setCell ⟨d, 4, none⟩ (.bool b)) d { D with down := b } F A c bs Fs :=
  h.own_set 4 _ (h.blk.set_ 4 _) rfl
/-- A zone takes a step. -/
theorem DevIs.step (h : DevIs w d D F A c bs Fs) {k : Nat} (hk : k < D.zs.length) (hk' : k < bs.length) {z' : Zn Sec} (hd : ZD.Does w w' bs[k] z' (Fs k)) : DDid w w' d (D.put k z') F A c bs := by
  obtain ⟨Fk, hat, hm, hF⟩ := hd
  have hl : (D.put k z').zs.length = D.zs.length := by simp [Dv.put]
  have hFin := h.inF.2.2 k hk
  have hlt := h.lt
  have hFkl : ∀ j, Fk j → j < w'.heap.size := by obtain ⟨_, _, _, _, _, _, hh⟩ := hat; exact hh
  have hmF : Mods F w w' := hm.mono (fun i _ hi => hFin i hi)
  have hother : ∀ i, i < D.zs.length → i ≠ k → ∀ j, Fs i j → ¬ Fk j := fun i hi hne j hj hj2 => by
    rcases hF j hj2 with h1 | h1
    · exact h.apart i k hi hk hne j hj h1
    · have := hlt j (h.inF.2.2 i hi j hj); omega
  refine ⟨fun j => F j ∨ (w.heap.size ≤ j ∧ j < w'.heap.size), fun i => if i = k then Fk else Fs i, ⟨?_, by rw [hl]; exact h.len, ?_, ?_, ?_, ?_, ?_, ?_, ?_⟩, hmF, fun j hj => hj.imp id (·.1)⟩
  · rw [hl]; exact h.blk.mods hm (h.noD k hk)
  · rw [hl]; exact own_mods h.own hm (fun g hg => (h.noR g hg).2 k hk)
  · intro i hi hi'
    rw [hl] at hi
    by_cases hik : i = k
    · subst hik
      simp only [Dv.put, List.getElem_set_self, if_pos]
      exact hat
    · simp only [if_neg hik, Dv.put]
      rw [List.getElem_set_ne (fun e => hik e.symm)]
      exact (h.zone i hi hi').mods hm (fun j hj => h.apart i k hi hk hik j hj)
  · intro i j hi hj hij q hq
    rw [hl] at hi hj
    by_cases hik : i = k
    · subst hik
      rw [if_pos rfl] at hq
      rw [if_neg (fun e => hij e.symm)]
      exact fun hq2 => hother j hj (fun e => hij e.symm) q hq2 hq
    · rw [if_neg hik] at hq
      by_cases hjk : j = k
      · subst hjk
        rw [if_pos rfl]
        exact hother i hi hik q hq
      · rw [if_neg hjk]
        exact h.apart i j hi hj hij q hq
  · intro i hi
    rw [hl] at hi
    by_cases hik : i = k
    · subst hik
      rw [if_pos rfl]
      intro hd
      rcases hF d hd with h1 | h1
      · exact h.noD i hi h1
      · have := hlt d h.inF.1; omega
    · rw [if_neg hik]; exact h.noD i hi
  · intro g hg
    rw [hl] at hg
    refine ⟨(h.noR g hg).1, fun i hi => ?_⟩
    rw [hl] at hi
    by_cases hik : i = k
    · subst hik
      rw [if_pos rfl]
      intro hd
      rcases hF g hd with h1 | h1
      · exact (h.noR g hg).2 i hi h1
      · have := hlt g (h.inF.2.1 g hg); omega
    · rw [if_neg hik]; exact (h.noR g hg).2 i hi
  · refine ⟨.inl h.inF.1, fun g hg => ?_, fun i hi j hj => ?_⟩
    · rw [hl] at hg; exact .inl (h.inF.2.1 g hg)
    · rw [hl] at hi
      by_cases hik : i = k
      · subst hik
        rw [if_pos rfl] at hj
        rcases hF j hj with h1 | h1
        · exact .inl (hFin j h1)
        · exact .inr ⟨h1, hFkl j hj⟩
      · rw [if_neg hik] at hj; exact .inl (h.inF.2.2 i hi j hj)
  · intro j hj
    rcases hj with hj | hj
    · exact Nat.lt_of_lt_of_le (hlt j hj) hm.size
    · exact hj.2
theorem DDid.trans {w1 : World} (h : DDid w w1 d D F A c bs) (k : ∀ F1 Fs1, DevIs w1 d D F1 A c bs Fs1 → DDid w1 w' d D' F1 A c bs) : DDid w w' d D' F A c bs := by
  obtain ⟨F1, Fs1, h1, hm1, hF1⟩ := h
  obtain ⟨F2, Fs2, h2, hm2, hF2⟩ := k F1 Fs1 h1
  have hs := hm1.size
  refine ⟨F2, Fs2, h2, hm1.trans hm2 (fun i hi hf => ?_), fun j hj => ?_⟩
  · rcases hF1 i hf with h | h
    · exact h
    · omega
  · rcases hF2 j hj with h | h
    · exact hF1 j h
    · right; omega
theorem DDid.join {w1 : World} {F1 : Nat → Prop} (hm1 : Mods F w w1) (hF1 : ∀ k, F1 k → F k ∨ w.heap.size ≤ k) (h : DDid w1 w' d D' F1 A c bs) : DDid w w' d D' F A c bs := by
  obtain ⟨F2, Fs2, h2, hm2, hF2⟩ := h
  have hs := hm1.size
  refine ⟨F2, Fs2, h2, hm1.trans hm2 (fun i hi hf => ?_), fun j hj => ?_⟩
  · rcases hF1 i hf with h | h
    · exact h
    · omega
  · rcases hF2 j hj with h | h
    · exact hF1 j h
    · right; omega
/-- Blocks laid behind a call. -/
theorem DDid.below {w1 : World} (h : DDid w w1 d D F A c bs) (hb : Below w1.heap.size w1 w') : DDid w w' d D F A c bs := h.trans (fun _ _ h1 => h1.did hb)
/-- Blocks laid ahead of a call. -/
theorem DDid.ahead {w1 : World} (hb : Below w.heap.size w w1) (h : DDid w1 w' d D' F A c bs) : DDid w w' d D' F A c bs := by
  obtain ⟨F2, Fs2, h2, hm2, hF2⟩ := h
  have hs := hb.size
  exact ⟨F2, Fs2, h2, (Mods.of_below hb F).trans hm2 (fun _ _ h => h), fun j hj => (hF2 j hj).imp id (fun h => Nat.le_trans hs h)⟩
theorem DevIs.cells (h : DevIs w d D F A c bs Fs) : w.cell? ⟨d, 0, none⟩ = some (.slice A D.zs.length c) ∧ w.cell? ⟨d, 1, none⟩ = some (.int .i64 D.size) ∧ w.cell? ⟨d, 2, none⟩ = some (.int .i64 D.op) ∧
    w.cell? ⟨d, 3, none⟩ = some (.int .i64 (D.n : Int)) ∧ w.cell? ⟨d, 4, none⟩ = some (.bool D.down) ∧ w.frozen? ⟨d, 3, none⟩ = false ∧ w.frozen? ⟨d, 4, none⟩ = false :=
  ⟨h.blk.cell 0, h.blk.cell 1, h.blk.cell 2, h.blk.cell 3, h.blk.cell 4, h.blk.frozen 3, h.blk.frozen 4⟩
/-- The row's cell that leads to zone k. -/
theorem DevIs.at_ (h : DevIs w d D F A c bs Fs) {k : Nat} (hk : k < D.zs.length) : ∃ g, A = some ⟨g, 0, none⟩ ∧ D.zs.length ≤ c ∧ ∃ (hk' : k < bs.length), w.cell? ⟨g, k, none⟩ = some (.pointer (some ⟨bs[k], 0, none⟩)) ∧ g < w.heap.size ∧ F g := by
  have hl := h.len
  rcases h.own.2 with ⟨h', h0⟩ | ⟨g, cap, cur, h', _, hh, hc, _⟩
  · omega
  · simp only [Value.slice.injEq, true_and] at h'
    obtain ⟨rfl, rfl⟩ := h'
    refine ⟨g, rfl, hc, by omega, ?_, (Array.getElem?_eq_some_iff.1 hh).1, h.inF.2.1 g rfl⟩
    have := h.own.cells (g := g) rfl k (ptr bs[k]) (by simp [hk, hl])
    simpa [Addr.add_lit, ptr] using this
end
end Go.Proofs.Ytdinbhanekpjoaa
