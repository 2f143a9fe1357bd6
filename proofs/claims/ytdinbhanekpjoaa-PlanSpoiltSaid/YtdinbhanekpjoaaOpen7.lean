/-
  How a slice of steps of 68 cells that comes in is read: three numbers, a sector and a slice of ints an element.
-/
import Derived.Test.YtdinbhanekpjoaaStep7
import Derived.ProofKit
import Derived.Deep.Slices
import Derived.Deep.Fields
import Derived.OpenShut
namespace Go.Proofs.Ytdinbhanekpjoaa
open Go.ChangeShapes Go.WideShapes Go.ChangeAt Go.RowKit Go.Deep

section
variable {H : Type} {enc : TypeId × Value → H} {w : World} {base : Nat} {spare : Nat → Bool} {held : Bool} {fuel : Nat}
/-- A sector that came in. -/
theorem sec_came {cs : List Value} {x : DataW H × List MemPlace} (h : DataW.trod enc Try.prog w base spare held fuel 34 cs = some x) : ∃ s : Sec, cs = s.cs := by
  obtain ⟨xs, m, _, _, hl, hxl, hx⟩ := DataW.trod_array Try.underlying34 h
  have hc : Try.prog.cellsOf 34 = 64 := by kernel_rfl
  have h1 : Try.prog.cellsOf 5 = 1 := by kernel_rfl
  rw [hc] at hl
  refine ⟨⟨cs, hl, fun v hv => ?_⟩, rfl⟩
  obtain ⟨i, hi, rfl⟩ := List.getElem_of_mem hv
  have ht := hx i (by omega)
  rw [h1, Nat.mul_one, List.drop_eq_getElem_cons hi, List.take_succ_cons, List.take_zero, List.getElem?_eq_getElem (show i < xs.length by omega)] at ht
  obtain ⟨n, e, _⟩ := DataW.trod_int Try.underlying5 ht
  simp at e
  exact ⟨n, e⟩
/-- A slice of ints that came in. -/
theorem ints_came {v : Value} {x : DataW H × List MemPlace} (h : DataW.trod enc Try.prog w base (fun _ => true) held fuel 35 [v] = some x) :
    ∃ (K : Option Addr) (keep : List Int) (kc : Nat), v = .slice K keep.length kc ∧ keep.length ≤ maxLen ∧ DM.CameInts w K keep := by
  rcases open_slice1 Try.underlying35 (by kernel_rfl) h with ⟨hcs, _⟩ | ⟨a, len, cap, m, n, V, D, Pl, hcs, _, hlc, hm, hmm, _, hx⟩
  · simp at hcs
    exact ⟨none, [], 0, hcs, Nat.zero_le _, fun h => absurd h (by simp)⟩
  · simp only [List.cons.injEq, and_true] at hcs
    simp only [if_true] at hmm
    subst hmm
    have hI : ∀ i, i < m → ∃ z : Int, w.cell? (a.add i) = some (.int .i64 z) := fun i hi => by
      obtain ⟨hc, ht⟩ := hx i hi
      obtain ⟨z, e, _⟩ := DataW.trod_int Try.underlying3 ht
      simp at e
      exact ⟨z, by rw [hc, e]⟩
    obtain ⟨f, hf⟩ := choose_lt hI
    refine ⟨some a, (List.range len).map f, m, by simpa using hcs, by simp; omega, fun hpos => ?_⟩
    simp only [List.length_map, List.length_range] at hpos
    obtain ⟨b, off, spot⟩ := a
    have hspot : spot = none := by simpa [Addr.add] using World.cell?_spot (hf 0 (by omega))
    subst hspot
    have h0 := hf 0 (by omega)
    refine ⟨b, off, rfl, World.block_lt_of_cell? _ _ h0, fun i hi => ?_⟩
    simp only [List.length_map, List.length_range] at hi
    have := hf i (by omega)
    simp only [add_plain] at this
    simpa using this
end

instance : Inhabited OpV := ⟨⟨0, 0, 0, Sec.zero, none, [], 0⟩⟩
/-- What is known of the slice of steps that came in. -/
def CameOps (w : World) (A : Option Addr) (os : List OpV) : Prop :=
  (∀ o ∈ os, DM.CameInts w o.K o.keep ∧ o.keep.length ≤ maxLen) ∧ (0 < os.length → ∃ b off, A = some ⟨b, off, none⟩ ∧ b < w.heap.size ∧ ∀ k (h : k < os.length), w.rangeAt b (off + k * 68) os[k].cells)

theorem CameOps.below {w wr : World} {A : Option Addr} {os : List OpV} (h : CameOps w A os) (hb : Below w.heap.size w wr) : CameOps wr A os :=
  ⟨fun o ho => ⟨(h.1 o ho).1.mods (Mods.of_below hb (fun _ => False)) (fun _ _ _ _ h => h), (h.1 o ho).2⟩, fun hp => by
    obtain ⟨b, off, e, hlt, hc⟩ := h.2 hp
    exact ⟨b, off, e, Nat.lt_of_lt_of_le hlt hb.size, fun k hk => R7.range_mods (hc k hk) (Mods.of_below hb (fun _ => False)) (fun h => h)⟩⟩

/-- The steps of a slice that came in: as many as it is long, and each is there. -/
theorem ops_came {H : Type} {enc : TypeId × Value → H} {W : World} {v : Value} {d : DataW H} {p : List MemPlace} {len cap : Nat} {a : Option Addr} (h : DataW.Trod enc Try.prog W 0 (fun _ => true) true 22 v d p)
    (hv : v = .slice a len cap) : len ≤ maxLen ∧ ∃ os : List OpV, os.length = len ∧ CameOps W a os := by
  subst hv
  obtain ⟨fuel, hf⟩ := h
  have hC : Try.prog.cellsOf 37 = 68 := by kernel_rfl
  rcases open_slice Try.underlying22 hf with ⟨hcs, hx⟩ | ⟨ad, len', cap', m, n, D, Pl, hcs, _, hl, hm, hmm, hx, hi⟩
  · simp [Value.cells] at hcs
    obtain ⟨rfl, rfl, rfl⟩ := hcs
    exact ⟨Nat.zero_le _, [], rfl, fun _ h => absurd h (by simp), fun h => absurd h (by simp)⟩
  · simp [Value.cells] at hcs
    obtain ⟨rfl, rfl, rfl⟩ := hcs
    simp only [if_true] at hmm
    subst hmm
    refine ⟨by omega, ?_⟩
    have hop : ∀ i, i < m → ∃ o : OpV, (DM.CameInts W o.K o.keep ∧ o.keep.length ≤ maxLen) ∧ ∀ j (hj : j < 68), W.cell? (ad.add (i * 68 + j)) = o.cells[j]? := by
      intro i him
      obtain ⟨cs', hc, ht⟩ := hi i him
      rw [hC] at hc
      obtain ⟨_, hcl, hat⟩ := World.cells?_some hc
      obtain ⟨ys, n', _, _, _, hyl, hfs⟩ := DataW.trod_struct Try.underlying37 ht
      have c3 : Try.prog.cellsOf 3 = 1 := by kernel_rfl
      have cS : Try.prog.cellsOf 34 = 64 := by kernel_rfl
      have cK : Try.prog.cellsOf 35 = 1 := by kernel_rfl
      have one : ∀ k (hk : k < 68), (cs'.drop k).take 1 = [cs'[k]] := fun k hk => by
        rw [List.drop_eq_getElem_cons (by omega)]; rfl
      have f0 : DataW.trod enc Try.prog W 0 (fun _ => true) true n' 3 ((cs'.drop 0).take (Try.prog.cellsOf 3)) = ys[0]? := by have := hfs 0 _ rfl; exact this
      have f1 : DataW.trod enc Try.prog W 0 (fun _ => true) true n' 3 ((cs'.drop 1).take (Try.prog.cellsOf 3)) = ys[1]? := by have := hfs 1 _ rfl; exact this
      have f2 : DataW.trod enc Try.prog W 0 (fun _ => true) true n' 3 ((cs'.drop 2).take (Try.prog.cellsOf 3)) = ys[2]? := by have := hfs 2 _ rfl; exact this
      have f3 : DataW.trod enc Try.prog W 0 (fun _ => true) true n' 34 ((cs'.drop 3).take (Try.prog.cellsOf 34)) = ys[3]? := by have := hfs 3 _ rfl; exact this
      have f4 : DataW.trod enc Try.prog W 0 (fun _ => true) true n' 35 ((cs'.drop 67).take (Try.prog.cellsOf 35)) = ys[4]? := by have := hfs 4 _ rfl; exact this
      have hy5 : ys.length = 5 := hyl
      rw [c3, one 0 (by omega), List.getElem?_eq_getElem (show 0 < ys.length by omega)] at f0
      rw [c3, one 1 (by omega), List.getElem?_eq_getElem (show 1 < ys.length by omega)] at f1
      rw [c3, one 2 (by omega), List.getElem?_eq_getElem (show 2 < ys.length by omega)] at f2
      rw [cS, List.getElem?_eq_getElem (show 3 < ys.length by omega)] at f3
      rw [cK, one 67 (by omega), List.getElem?_eq_getElem (show 4 < ys.length by omega)] at f4
      obtain ⟨z0, e0, _⟩ := DataW.trod_int Try.underlying3 f0
      obtain ⟨z1, e1, _⟩ := DataW.trod_int Try.underlying3 f1
      obtain ⟨z2, e2, _⟩ := DataW.trod_int Try.underlying3 f2
      obtain ⟨s, e3⟩ := sec_came f3
      obtain ⟨K, keep, kc, e4, hkl, hK⟩ := ints_came f4
      simp only [List.cons.injEq, and_true] at e0 e1 e2
      refine ⟨⟨z0, z1, z2, s, K, keep, kc⟩, ⟨hK, hkl⟩, fun j hj => ?_⟩
      have hcs : cs' = [cs'[0], cs'[1], cs'[2]] ++ (cs'.drop 3).take 64 ++ [cs'[67]] := by
        have t1 : cs'.take 3 = [cs'[0], cs'[1], cs'[2]] := by
          rw [List.take_succ_eq_append_getElem (by omega), List.take_succ_eq_append_getElem (by omega), List.take_succ_eq_append_getElem (by omega), List.take_zero]; rfl
        have t2 : cs'.drop 67 = [cs'[67]] := by
          rw [← one 67 (by omega), List.take_of_length_le (by simp; omega)]
        rw [← t1, ← t2]
        conv => lhs; rw [← List.take_append_drop 3 cs', ← List.take_append_drop 64 (cs'.drop 3), List.drop_drop]
        rw [List.append_assoc]
      have hcells : (⟨z0, z1, z2, s, K, keep, kc⟩ : OpV).cells = cs' := by
        rw [hcs, e0, e1, e2, e3, e4]
        rfl
      rw [hcells]
      have := hat j hj
      rw [← Go.Deep.add_add]
      exact this
    obtain ⟨f, hf'⟩ := choose_lt hop
    refine ⟨(List.range len).map f, by simp, fun o ho => ?_, fun hpos => ?_⟩
    · obtain ⟨k, hk, rfl⟩ := List.mem_map.1 ho
      exact (hf' k (by have := List.mem_range.1 hk; omega)).1
    · simp only [List.length_map, List.length_range] at hpos
      obtain ⟨b, off, spot⟩ := ad
      have hc0 : W.cell? ((⟨b, off, spot⟩ : Addr).add (0 * 68 + 0)) = some (.int .i64 (f 0).kind) := ((hf' 0 (by omega)).2 0 (by omega)).trans rfl
      have hspot : spot = none := by simpa [Addr.add] using World.cell?_spot hc0
      subst hspot
      refine ⟨b, off, rfl, World.block_lt_of_cell? _ _ hc0, fun k hk j v hv => ?_⟩
      simp only [List.length_map, List.length_range] at hk
      have hj : j < 68 := by rw [← OpV.length]; exact (List.getElem?_eq_some_iff.1 hv).1
      have := (hf' k (by omega)).2 j hj
      simp only [add_plain] at this
      simp only [List.getElem_map, List.getElem_range] at hv
      rw [Nat.add_assoc, this, hv]
end Go.Proofs.Ytdinbhanekpjoaa
