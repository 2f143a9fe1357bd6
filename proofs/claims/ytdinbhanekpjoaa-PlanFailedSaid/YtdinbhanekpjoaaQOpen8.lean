/-
  How a slice of steps of 136 cells that comes in is read: a device's step's fields and an event an element.
-/
import Derived.Test.YtdinbhanekpjoaaOpen7
import Derived.Test.YtdinbhanekpjoaaQStep8
namespace Go.Proofs.Ytdinbhanekpjoaa
open Go.ChangeShapes Go.WideShapes Go.ChangeAt Go.RowKit Go.Deep

section
variable {H : Type} {enc : TypeId × Value → H} {w : World} {base : Nat} {spare : Nat → Bool} {held : Bool} {fuel : Nat}
/-- An event that came in. -/
theorem ev_came {cs : List Value} (hl : cs.length = 68) {x : DataW H × List MemPlace} (h : DataW.trod enc Try.prog w base spare held fuel 66 cs = some x) : ∃ e : EvV, cs = e.cells ∧ e.Fits := by
  obtain ⟨ys, n', _, _, _, hyl, hfs⟩ := DataW.trod_struct Try.underlying66 h
  have c3 : Try.prog.cellsOf 3 = 1 := by kernel_rfl
  have cS : Try.prog.cellsOf 34 = 64 := by kernel_rfl
  have one : ∀ k (hk : k < 68), (cs.drop k).take 1 = [cs[k]] := fun k hk => by
    rw [List.drop_eq_getElem_cons (by omega)]; rfl
  have f0 : DataW.trod enc Try.prog w base spare held n' 3 ((cs.drop 0).take (Try.prog.cellsOf 3)) = ys[0]? := by have := hfs 0 _ rfl; exact this
  have f1 : DataW.trod enc Try.prog w base spare held n' 3 ((cs.drop 1).take (Try.prog.cellsOf 3)) = ys[1]? := by have := hfs 1 _ rfl; exact this
  have f2 : DataW.trod enc Try.prog w base spare held n' 3 ((cs.drop 2).take (Try.prog.cellsOf 3)) = ys[2]? := by have := hfs 2 _ rfl; exact this
  have f3 : DataW.trod enc Try.prog w base spare held n' 3 ((cs.drop 3).take (Try.prog.cellsOf 3)) = ys[3]? := by have := hfs 3 _ rfl; exact this
  have f4 : DataW.trod enc Try.prog w base spare held n' 34 ((cs.drop 4).take (Try.prog.cellsOf 34)) = ys[4]? := by have := hfs 4 _ rfl; exact this
  have hy5 : ys.length = 5 := hyl
  rw [c3, one 0 (by omega), List.getElem?_eq_getElem (show 0 < ys.length by omega)] at f0
  rw [c3, one 1 (by omega), List.getElem?_eq_getElem (show 1 < ys.length by omega)] at f1
  rw [c3, one 2 (by omega), List.getElem?_eq_getElem (show 2 < ys.length by omega)] at f2
  rw [c3, one 3 (by omega), List.getElem?_eq_getElem (show 3 < ys.length by omega)] at f3
  rw [cS, List.getElem?_eq_getElem (show 4 < ys.length by omega)] at f4
  obtain ⟨z0, e0, _, u0⟩ := DataW.trod_int Try.underlying3 f0
  obtain ⟨z1, e1, _, u1⟩ := DataW.trod_int Try.underlying3 f1
  obtain ⟨z2, e2, _, u2⟩ := DataW.trod_int Try.underlying3 f2
  obtain ⟨z3, e3, _, u3⟩ := DataW.trod_int Try.underlying3 f3
  obtain ⟨s, e4⟩ := sec_came f4
  simp only [List.cons.injEq, and_true] at e0 e1 e2 e3
  refine ⟨⟨z0, z1, z2, z3, s⟩, ?_, ⟨u0, u1, u2, u3⟩⟩
  have hcs : cs = [cs[0], cs[1], cs[2], cs[3]] ++ (cs.drop 4).take 64 := by
    have t1 : cs.take 4 = [cs[0], cs[1], cs[2], cs[3]] := by
      rw [List.take_succ_eq_append_getElem (by omega), List.take_succ_eq_append_getElem (by omega), List.take_succ_eq_append_getElem (by omega), List.take_succ_eq_append_getElem (by omega), List.take_zero]; rfl
    rw [← t1]
    conv => lhs; rw [← List.take_append_drop 4 cs]
    rw [List.take_of_length_le (l := cs.drop 4) (by simp; omega)]
  rw [hcs, e0, e1, e2, e3, e4]
  rfl
end

instance : Inhabited OpP := ⟨⟨⟨0, 0, 0, Sec.zero, none, [], 0⟩, EvV.zero⟩⟩
/-- What is known of the slice of steps that came in. -/
def CameOps8 (w : World) (A : Option Addr) (ps : List OpP) : Prop :=
  (∀ p ∈ ps, DM.CameInts w p.o.K p.o.keep ∧ p.o.keep.length ≤ maxLen ∧ p.Fits) ∧ (0 < ps.length → ∃ b off, A = some ⟨b, off, none⟩ ∧ b < w.heap.size ∧ ∀ k (h : k < ps.length), w.rangeAt b (off + k * 136) ps[k].cells)
theorem CameOps8.below {w wr : World} {A : Option Addr} {ps : List OpP} (h : CameOps8 w A ps) (hb : Below w.heap.size w wr) : CameOps8 wr A ps :=
  ⟨fun o ho => ⟨(h.1 o ho).1.mods (Mods.of_below hb (fun _ => False)) (fun _ _ _ _ h => h), (h.1 o ho).2⟩, fun hp => by
    obtain ⟨b, off, e, hlt, hc⟩ := h.2 hp
    exact ⟨b, off, e, Nat.lt_of_lt_of_le hlt hb.size, fun k hk => R7.range_mods (hc k hk) (Mods.of_below hb (fun _ => False)) (fun h => h)⟩⟩
theorem OpP.fits' {p : OpP} (h1 : fits p.o.zone) (h2 : fits p.o.off) (h3 : p.e.Fits) : p.Fits := ⟨h1, h2, h3⟩
theorem sizeOp8 (p : OpP) : (Try.prog.info? 68).map (·.size) = some p.cells.length := by rw [OpP.length]; kernel_rfl
theorem sizeOp8R (p : OpP) : (Try.prog.info? 68).map (·.size) = some p.cells.toArray.size := by rw [List.size_toArray]; exact sizeOp8 p
theorem OpV.one8 (o : OpV) : ∀ v ∈ o.cells, v.oneCell' = true := fun v hv => by
  unfold OpV.cells at hv
  simp only [List.mem_append, List.mem_cons, List.not_mem_nil, or_false] at hv
  rcases hv with ((rfl | rfl | rfl) | h) | rfl
  · rfl
  · rfl
  · rfl
  · exact o.s.one v h
  · rfl
theorem OpP.all (p : OpP) : p.cells.toArray.all (·.oneCell') = true := by
  rw [Array.all_eq_true']
  intro v hv
  rcases List.mem_append.1 (show v ∈ p.o.cells ++ p.e.cells by simpa [OpP.cells] using hv) with h | h
  · exact p.o.one8 v h
  · exact p.e.one v h
def OpP.zero : OpP := ⟨⟨0, 0, 0, Sec.zero, none, [], 0⟩, EvV.zero⟩
theorem range_op8 {w : World} {g : Nat} {t : TypeId} (p : OpP) (h : Blk w g t p.cells.toArray) : w.rangeAt g 0 p.cells := fun j v hv => by
  rw [Nat.zero_add, h.cell j, List.getElem?_toArray, hv]

/-- The steps of a slice that came in: as many as it is long, and each is there. -/
theorem ops8_came {H : Type} {enc : TypeId × Value → H} {W : World} {v : Value} {d : DataW H} {p : List MemPlace} {len cap : Nat} {a : Option Addr} (h : DataW.Trod enc Try.prog W 0 (fun _ => true) true 58 v d p)
    (hv : v = .slice a len cap) : len ≤ maxLen ∧ ∃ ps : List OpP, ps.length = len ∧ CameOps8 W a ps := by
  subst hv
  obtain ⟨fuel, hf⟩ := h
  have hC : Try.prog.cellsOf 68 = 136 := by kernel_rfl
  rcases open_slice Try.underlying58 hf with ⟨hcs, hx⟩ | ⟨ad, len', cap', m, n, D, Pl, hcs, _, hl, hm, hmm, hx, hi⟩
  · simp [Value.cells] at hcs
    obtain ⟨rfl, rfl, rfl⟩ := hcs
    exact ⟨Nat.zero_le _, [], rfl, fun _ h => absurd h (by simp), fun h => absurd h (by simp)⟩
  · simp [Value.cells] at hcs
    obtain ⟨rfl, rfl, rfl⟩ := hcs
    simp only [if_true] at hmm
    subst hmm
    refine ⟨by omega, ?_⟩
    have hop : ∀ i, i < m → ∃ o : OpP, (DM.CameInts W o.o.K o.o.keep ∧ o.o.keep.length ≤ maxLen ∧ o.Fits) ∧ ∀ j (hj : j < 136), W.cell? (ad.add (i * 136 + j)) = o.cells[j]? := by
      intro i him
      obtain ⟨cs', hc, ht⟩ := hi i him
      rw [hC] at hc
      obtain ⟨_, hcl, hat⟩ := World.cells?_some hc
      obtain ⟨ys, n', _, _, _, hyl, hfs⟩ := DataW.trod_struct Try.underlying68 ht
      have c3 : Try.prog.cellsOf 3 = 1 := by kernel_rfl
      have cS : Try.prog.cellsOf 34 = 64 := by kernel_rfl
      have cK : Try.prog.cellsOf 35 = 1 := by kernel_rfl
      have cE : Try.prog.cellsOf 66 = 68 := by kernel_rfl
      have one : ∀ k (hk : k < 136), (cs'.drop k).take 1 = [cs'[k]] := fun k hk => by
        rw [List.drop_eq_getElem_cons (by omega)]; rfl
      have f0 : DataW.trod enc Try.prog W 0 (fun _ => true) true n' 3 ((cs'.drop 0).take (Try.prog.cellsOf 3)) = ys[0]? := by have := hfs 0 _ rfl; exact this
      have f1 : DataW.trod enc Try.prog W 0 (fun _ => true) true n' 3 ((cs'.drop 1).take (Try.prog.cellsOf 3)) = ys[1]? := by have := hfs 1 _ rfl; exact this
      have f2 : DataW.trod enc Try.prog W 0 (fun _ => true) true n' 3 ((cs'.drop 2).take (Try.prog.cellsOf 3)) = ys[2]? := by have := hfs 2 _ rfl; exact this
      have f3 : DataW.trod enc Try.prog W 0 (fun _ => true) true n' 34 ((cs'.drop 3).take (Try.prog.cellsOf 34)) = ys[3]? := by have := hfs 3 _ rfl; exact this
      have f4 : DataW.trod enc Try.prog W 0 (fun _ => true) true n' 35 ((cs'.drop 67).take (Try.prog.cellsOf 35)) = ys[4]? := by have := hfs 4 _ rfl; exact this
      have f5 : DataW.trod enc Try.prog W 0 (fun _ => true) true n' 66 ((cs'.drop 68).take (Try.prog.cellsOf 66)) = ys[5]? := by have := hfs 5 _ rfl; exact this
      have hy6 : ys.length = 6 := hyl
      rw [c3, one 0 (by omega), List.getElem?_eq_getElem (show 0 < ys.length by omega)] at f0
      rw [c3, one 1 (by omega), List.getElem?_eq_getElem (show 1 < ys.length by omega)] at f1
      rw [c3, one 2 (by omega), List.getElem?_eq_getElem (show 2 < ys.length by omega)] at f2
      rw [cS, List.getElem?_eq_getElem (show 3 < ys.length by omega)] at f3
      rw [cK, one 67 (by omega), List.getElem?_eq_getElem (show 4 < ys.length by omega)] at f4
      rw [cE, List.getElem?_eq_getElem (show 5 < ys.length by omega)] at f5
      obtain ⟨z0, e0, _, _⟩ := DataW.trod_int Try.underlying3 f0
      obtain ⟨z1, e1, _, u1⟩ := DataW.trod_int Try.underlying3 f1
      obtain ⟨z2, e2, _, u2⟩ := DataW.trod_int Try.underlying3 f2
      obtain ⟨s, e3⟩ := sec_came f3
      obtain ⟨K, keep, kc, e4, hkl, hK⟩ := ints_came f4
      obtain ⟨ev, e5, hev⟩ := ev_came (by simp; omega) f5
      simp only [List.cons.injEq, and_true] at e0 e1 e2 e4
      refine ⟨⟨⟨z0, z1, z2, s, K, keep, kc⟩, ev⟩, ⟨hK, hkl, ⟨u1, u2, hev⟩⟩, fun j hj => ?_⟩
      have hcs : cs' = [cs'[0], cs'[1], cs'[2]] ++ (cs'.drop 3).take 64 ++ [cs'[67]] ++ (cs'.drop 68).take 68 := by
        have t1 : cs'.take 3 = [cs'[0], cs'[1], cs'[2]] := by
          rw [List.take_succ_eq_append_getElem (by omega), List.take_succ_eq_append_getElem (by omega), List.take_succ_eq_append_getElem (by omega), List.take_zero]; rfl
        have t3 : (cs'.drop 68).take 68 = cs'.drop 68 := List.take_of_length_le (by simp; omega)
        have t2 : cs'.drop 67 = [cs'[67]] ++ cs'.drop 68 := by
          rw [List.drop_eq_getElem_cons (by omega)]; rfl
        rw [← t1, t3]
        conv => lhs; rw [← List.take_append_drop 3 cs', ← List.take_append_drop 64 (cs'.drop 3), List.drop_drop, t2]
        simp only [List.append_assoc]
      have hcells : (⟨⟨z0, z1, z2, s, K, keep, kc⟩, ev⟩ : OpP).cells = cs' := by
        rw [hcs, e0, e1, e2, e3, e4, e5]
        rfl
      rw [hcells]
      have := hat j hj
      rw [← Go.Deep.add_add]
      exact this
    obtain ⟨f, hf'⟩ := choose_lt hop
    refine ⟨(List.range len).map f, by simp, fun o ho => ?_, fun hpos => ?_⟩
    · obtain ⟨k, hk, rfl⟩ := List.mem_map.1 ho
      exact (hf' k (by have := List.mem_range.1 hk; omega)).1
    · simp only [List.length_map, List.length_range] at hpos
      obtain ⟨b, off, spot⟩ := ad
      have hc0 : W.cell? ((⟨b, off, spot⟩ : Addr).add (0 * 136 + 0)) = some (.int .i64 (f 0).o.kind) := ((hf' 0 (by omega)).2 0 (by omega)).trans rfl
      have hspot : spot = none := by simpa [Addr.add] using World.cell?_spot hc0
      subst hspot
      refine ⟨b, off, rfl, World.block_lt_of_cell? _ _ hc0, fun k hk j v hv => ?_⟩
      simp only [List.length_map, List.length_range] at hk
      have hj : j < 136 := by rw [← OpP.length]; exact (List.getElem?_eq_some_iff.1 hv).1
      have := (hf' k (by omega)).2 j hj
      simp only [add_plain] at this
      simp only [List.getElem_map, List.getElem_range] at hv
      rw [Nat.add_assoc, this, hv]
end Go.Proofs.Ytdinbhanekpjoaa
