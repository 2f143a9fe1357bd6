/-
  How a slice of steps that comes in is read: three numbers an element.
-/
import Derived.Test.YtahlphclighccaaPlay
import Derived.ProofKit
import Derived.Deep.Slices
import Derived.Deep.Fields
namespace Go.Proofs.Ytahlphclighccaa
open Go.ChangeShapes Go.WideShapes Go.ChangeAt Go.RowKit Go.Deep

section
variable {H : Type} {enc : TypeId × Value → H} {P : Program} {w : World} {base : Nat} {spare : Nat → Bool} {held : Bool}
theorem open_slice_fields {t e : TypeId} {fs : Array Field} {fuel : Nat} {cs : List Value} {x : DataW H × List MemPlace} (ht : P.underlying t = some (.slice e)) (he : P.underlying e = some (.struct fs))
    (hone : oneCellFields P fs = true) (hC : P.cellsOf e = fs.size) (h : DataW.trod enc P w base spare held fuel t cs = some x) :
    (cs = [.slice none 0 0] ∧ x = (.nil, [])) ∨
    ∃ (a : Addr) (len cap m : Nat) (D : Nat → DataW H) (Pl : Nat → List MemPlace), cs = [.slice (some a) len cap] ∧ base ≤ a.block ∧ len ≤ cap ∧ cap ≤ maxLen ∧ m = (if spare a.block then cap else len) ∧
      x = (.slice ((List.range len).map D) ((List.range (m - len)).map fun j => D (len + j)), MemPlace.row a (m * fs.size) ++ (List.range m).flatMap Pl) ∧
      ∀ i, i < m → ∃ (ys : List (DataW H × List MemPlace)) (n : Nat), D i = .agg (ys.map (·.1)) ∧ Pl i = ys.flatMap (·.2) ∧ ys.length = fs.size ∧
        ∀ (j : Nat) (f : Field), fs[j]? = some f → ∃ (v : Value) (y : DataW H × List MemPlace), w.cell? (a.add (i * fs.size + j)) = some v ∧ ys[j]? = some y ∧ DataW.trod enc P w base spare held n f.type [v] = some y := by
  rcases open_slice ht h with h0 | ⟨a, len, cap, m, n, D, Pl, hcs, hb, hl, hm, hmm, hx, hi⟩
  · exact .inl h0
  · refine .inr ⟨a, len, cap, m, D, Pl, hcs, hb, hl, hm, hmm, by rw [hC] at hx; exact hx, fun i him => ?_⟩
    obtain ⟨cs', hc, ht'⟩ := hi i him
    rw [hC] at hc
    obtain ⟨ys, n', hn', hy, hlen, hyl, hf⟩ := DataW.trod_struct he ht'
    obtain ⟨_, hcl, hat⟩ := World.cells?_some hc
    simp only [Prod.mk.injEq] at hy
    refine ⟨ys, n', hy.1, hy.2, hyl, fun j f hj => ?_⟩
    obtain ⟨ho, hk⟩ := hone_of hone j f hj
    have hjl : j < fs.size := (Array.getElem?_eq_some_iff.1 hj).1
    have hcell := hat j hjl
    have hv : cs'[j]? = some (cs'[j]'(by omega)) := List.getElem?_eq_getElem (by omega)
    have h1 := hf j f hj
    rw [ho, hk] at h1
    have hone' : (cs'.drop j).take 1 = [cs'[j]'(by omega)] := by
      rw [List.drop_eq_getElem_cons (by omega)]
      rfl
    rw [hone'] at h1
    have hys : ys[j]? = some (ys[j]'(by omega)) := List.getElem?_eq_getElem (by omega)
    refine ⟨_, _, ?_, hys, h1.trans hys⟩
    rw [← Go.Deep.add_add, hcell, hv]
end

theorem cellsOp : Try.prog.cellsOf 41 = 3 := by kernel_rfl

/-- The steps of a slice that came in: as many as it is long, and each is there. -/
theorem ops_came {H : Type} {enc : TypeId × Value → H} {W : World} {v : Value} {d : DataW H} {p : List MemPlace} {len cap : Nat} {a : Option Addr} (h : DataW.Trod enc Try.prog W 0 (fun _ => true) true 35 v d p)
    (hv : v = .slice a len cap) (hlt : ∀ x ∈ p, x.block < W.heap.size) : len ≤ maxLen ∧ ∃ os : List Stp, os.length = len ∧ CameOps W a os := by
  subst hv
  obtain ⟨fuel, hf⟩ := h
  rcases open_slice_fields Try.underlying35 Try.underlying41 (by kernel_rfl) (by kernel_rfl) hf with ⟨hcs, hx⟩ | ⟨ad, len', cap', m, D, Pl, hcs, _, hl, hm, hmm, hx, hi⟩
  · simp [Value.cells] at hcs
    obtain ⟨rfl, rfl, rfl⟩ := hcs
    exact ⟨Nat.zero_le _, [], rfl, fun h => absurd h (by simp)⟩
  · simp [Value.cells] at hcs
    obtain ⟨rfl, rfl, rfl⟩ := hcs
    simp only [if_true] at hmm
    subst hmm
    refine ⟨by omega, ?_⟩
    simp only [Prod.mk.injEq] at hx
    obtain ⟨_, hp⟩ := hx
    have hthree : ∀ i, i < m → ∃ o : Stp, W.cell? (ad.add (i * 3)) = some (.int .i64 o.1) ∧ W.cell? (ad.add (i * 3 + 1)) = some (.int .i64 o.2.1) ∧ W.cell? (ad.add (i * 3 + 2)) = some (.int .i64 o.2.2) := by
      intro i him
      obtain ⟨ys, n, _, _, _, hfield⟩ := hi i him
      obtain ⟨v0, y0, h0, _, t0⟩ := hfield 0 _ rfl
      obtain ⟨v1, y1, h1, _, t1⟩ := hfield 1 _ rfl
      obtain ⟨v2, y2, h2, _, t2⟩ := hfield 2 _ rfl
      obtain ⟨x0, e0, _⟩ := DataW.trod_int Try.underlying3 t0
      obtain ⟨x1, e1, _⟩ := DataW.trod_int Try.underlying3 t1
      obtain ⟨x2, e2, _⟩ := DataW.trod_int Try.underlying3 t2
      simp at e0 e1 e2
      subst e0 e1 e2
      exact ⟨(x0, x1, x2), h0, h1, h2⟩
    obtain ⟨f, hf'⟩ := choose_lt hthree
    refine ⟨(List.range len).map f, by simp, fun hpos => ?_⟩
    simp only [List.length_map, List.length_range] at hpos
    obtain ⟨b, off, spot⟩ := ad
    have hspot : spot = none := by simpa [Addr.add] using World.cell?_spot (hf' 0 (by omega)).1
    subst hspot
    refine ⟨b, off, rfl, hlt (.cell b off) (by rw [hp]; exact List.mem_append_left _ (MemPlace.mem_row.2 ⟨0, by simp; omega, by simp⟩)), fun k hk => ?_⟩
    simp only [List.length_map, List.length_range] at hk
    have := hf' k (by omega)
    simp only [add_plain] at this
    simpa [Nat.add_assoc] using this
end Go.Proofs.Ytahlphclighccaa
