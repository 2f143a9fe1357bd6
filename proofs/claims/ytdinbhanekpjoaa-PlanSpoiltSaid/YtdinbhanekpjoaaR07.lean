/-
  The document's device (package revetmentref07) in memory, and what its small methods answer.
-/
import Derived.Test.YtdinbhanekpjoaaDM2
import Derived.Deep.DeepCutAuto
namespace Go.Proofs.Ytdinbhanekpjoaa
open Go.RowKit

/-- A zone of the document's, with the slice that holds its sectors. -/
structure RZ where
  z : Zn Sec
  a : Option Addr
  c : Nat
def RZ.cells (e : RZ) : List Value := [.slice e.a e.z.L.length e.c, .int .i64 (e.z.safe : Int), .int .i64 e.z.state, .bool e.z.fin]
theorem rz_length (l : List RZ) : (l.flatMap RZ.cells).length = l.length * 4 := by
  induction l with
  | nil => rfl
  | cons s l ih => rw [List.flatMap_cons, List.length_append, ih, List.length_cons]; simp [RZ.cells]; omega
theorem rz_get (l : List RZ) (k : Nat) (hk : k < l.length) (j : Nat) (hj : j < 4) : (l.flatMap RZ.cells)[k * 4 + j]? = (l[k]).cells[j]? := by
  induction l generalizing k with
  | nil => simp at hk
  | cons s l ih =>
    rw [List.flatMap_cons]
    cases k with
    | zero => rw [Nat.zero_mul, Nat.zero_add, List.getElem?_append_left (by simp [RZ.cells]; omega)]; rfl
    | succ k =>
      rw [List.getElem?_append_right (by simp [RZ.cells]; omega), show (k + 1) * 4 + j - s.cells.length = k * 4 + j by simp [RZ.cells]; omega]
      exact ih k (by simpa using hk)
theorem rz_one (l : List RZ) : ∀ v ∈ l.flatMap RZ.cells, v.oneCell' = true := fun v hv => by
  obtain ⟨s, _, hs⟩ := List.mem_flatMap.1 hv
  simp only [RZ.cells, List.mem_cons, List.not_mem_nil, or_false] at hs
  rcases hs with rfl | rfl | rfl | rfl <;> rfl

/-- The document's device as a value: its zones es lie in a row, their sectors in rows; all in blocks of G. -/
structure RefIs (w : World) (D : Dv) (A : Option Addr) (c : Nat) (es : List RZ) (G : Nat → Prop) : Prop where
  zs : es.map RZ.z = D.zs
  own : w.ownsRow 0 93 4 (.slice A D.zs.length c) D.zs.length (es.flatMap RZ.cells)
  row : ∀ e ∈ es, w.ownsRow 0 33 64 (.slice e.a e.z.L.length e.c) e.z.L.length (e.z.L.flatMap Sec.cs)
  inG : (∀ g, (Value.slice A D.zs.length c).ownBlock = some g → G g) ∧ ∀ e ∈ es, ∀ g, (Value.slice e.a e.z.L.length e.c).ownBlock = some g → G g

section
variable {w w' : World} {D : Dv} {A : Option Addr} {c : Nat} {es : List RZ} {G G' S : Nat → Prop}
theorem RefIs.len (h : RefIs w D A c es G) : es.length = D.zs.length := by rw [← h.zs, List.length_map]
theorem RefIs.mods (h : RefIs w D A c es G) (hm : Mods S w w') (hd : ∀ k, G k → k < w.heap.size → ¬ S k) : RefIs w' D A c es G :=
  ⟨h.zs, own_mods h.own hm (fun g hg => hd g (h.inG.1 g hg) (own_lt h.own g hg)), fun e he => own_mods (h.row e he) hm (fun g hg => hd g (h.inG.2 e he g hg) (own_lt (h.row e he) g hg)), h.inG⟩
theorem RefIs.below (h : RefIs w D A c es G) (hb : Below w.heap.size w w') : RefIs w' D A c es G := h.mods (Mods.of_below hb (fun _ => False)) (fun _ _ _ h => h)
theorem RefIs.mono (h : RefIs w D A c es G) (hG : ∀ k, G k → G' k) : RefIs w D A c es G' := ⟨h.zs, h.own, h.row, fun g hg => hG g (h.inG.1 g hg), fun e he g hg => hG g (h.inG.2 e he g hg)⟩
theorem RefIs.tick (h : RefIs w D A c es G) : RefIs w D.tick A c es G := ⟨h.zs, h.own, h.row, h.inG⟩
theorem RefIs.get (h : RefIs w D A c es G) {k : Nat} (hk : k < D.zs.length) : ∃ (hk' : k < es.length), es[k].z = D.zs[k] := by
  have hl := h.len
  refine ⟨by omega, ?_⟩
  have := h.zs
  have e : (es.map RZ.z)[k]'(by simp; omega) = D.zs[k] := by simp only [this]
  rw [← e, List.getElem_map]
/-- The cells of zone k. -/
theorem RefIs.at_ (h : RefIs w D A c es G) {k : Nat} (hk : k < D.zs.length) : ∃ g, A = some ⟨g, 0, none⟩ ∧ D.zs.length ≤ c ∧ g < w.heap.size ∧ ∃ (hk' : k < es.length), es[k].z = D.zs[k] ∧
    w.cell? ⟨g, k * 4, none⟩ = some (.slice es[k].a D.zs[k].L.length es[k].c) ∧ w.cell? ⟨g, k * 4 + 1, none⟩ = some (.int .i64 (D.zs[k].safe : Int)) ∧ w.cell? ⟨g, k * 4 + 2, none⟩ = some (.int .i64 D.zs[k].state) ∧ w.cell? ⟨g, k * 4 + 3, none⟩ = some (.bool D.zs[k].fin) := by
  obtain ⟨hk', hz⟩ := h.get hk
  rcases h.own.2 with ⟨h', h0⟩ | ⟨g, cap, cur, h', _, hh, hc, _⟩
  · omega
  · simp only [Value.slice.injEq, true_and] at h'
    obtain ⟨rfl, rfl⟩ := h'
    have hcell : ∀ j, j < 4 → ∀ v, es[k].cells[j]? = some v → w.cell? ⟨g, k * 4 + j, none⟩ = some v := fun j hj v hv => by
      have := h.own.cells (g := g) rfl (k * 4 + j) v (by rw [rz_get _ k hk' j hj]; exact hv)
      simpa [Addr.add_lit] using this
    have e := hz
    refine ⟨g, rfl, hc, (Array.getElem?_eq_some_iff.1 hh).1, hk', hz, ?_, ?_, ?_, ?_⟩
    · rw [← hz]; exact hcell 0 (by omega) _ rfl
    · rw [← hz]; exact hcell 1 (by omega) _ rfl
    · rw [← hz]; exact hcell 2 (by omega) _ rfl
    · rw [← hz]; exact hcell 3 (by omega) _ rfl
end

namespace R7
theorem failed_any (A : Option Addr) (n c : Nat) (safe s : Int) (fin : Bool) (w : World) :
    Calls Try.prog 86 #[.agg #[.slice A n c, .int .i64 safe, .int .i64 s, .bool fin]] w fun e w' => e = .returned (.int .i64 (failedOf s)) ∧ w.alloc (.cells #[.slice A n c, .int .i64 safe, .int .i64 s, .bool fin] 93) = w' := by
  by_cases h4 : s = 4
  · subst h4
    go_enter Try.func86, Try.ntmps86
    go_wp2
    go_ret
    exact ⟨rfl, rfl⟩
  · by_cases h3 : s = 3
    · subst h3
      go_enter Try.func86, Try.ntmps86
      go_wp2
      go_ret
      exact ⟨rfl, rfl⟩
    · have e4 : (s == 4) = false := by simpa using h4
      have e3 : (s == 3) = false := by simpa using h3
      have e0 := hide (failedOf_zero h4 h3)
      go_enter Try.func86, Try.ntmps86
      go_wp2
      go_ret
      exact ⟨ZD.ret_int e0.out.symm, rfl⟩

set_option maxHeartbeats 400000 in
theorem begin_any (D : Dv) (A : Option Addr) (c : Nat) (i : Int) (w : World) (hn : D.n < 65536) :
    Calls Try.prog 84 #[.agg #[.slice A D.zs.length c, .int .i64 D.size, .int .i64 D.op, .int .i64 (D.n : Int), .bool D.down], .int .i64 i] w fun e w' =>
      e = .returned (.tuple #[.agg #[.slice A D.zs.length c, .int .i64 D.size, .int .i64 D.op, .int .i64 ((D.begin_ i).1.n : Int), .bool D.down], .int .i64 (D.begin_ i).2]) ∧ Below w.heap.size w w' := by
  have hB : ∀ o1 o2, Below w.heap.size w ((w.alloc o1).alloc o2) := fun _ _ => ((Below.refl _ w).alloc (Nat.le_refl _) _).alloc (by simp) _
  by_cases hd : D.down = true
  · have hfin := hide (Dv.begin_down i hd)
    have Hd := hide hd
    rw [hd]
    clear hd
    go_enter Try.func84, Try.ntmps84
    go_wp2_with fail
    refine bodyPost_ret (v := .tuple #[.agg #[.slice A D.zs.length c, .int .i64 D.size, .int .i64 D.op, .int .i64 (D.n : Int), .bool true], .int .i64 34]) (by simp [results, Try.results84, go_sem]) rfl ?_
    rw [hfin.out]
    exact ⟨rfl, hB _ _⟩
  · by_cases hz : i < 0 ∨ (D.zs.length : Int) ≤ i
    · have hfin := hide (Dv.begin_out i hd hz)
      rw [Bool.not_eq_true] at hd
      rw [hd]
      clear hd
      by_cases h0 : i < 0
      · clear hz
        go_enter Try.func84, Try.ntmps84
        go_wp2_with fail
        refine bodyPost_ret (v := .tuple #[.agg #[.slice A D.zs.length c, .int .i64 D.size, .int .i64 D.op, .int .i64 (D.n : Int), .bool false], .int .i64 13]) (by simp [results, Try.results84, go_sem]) rfl ?_
        rw [hfin.out]
        exact ⟨rfl, hB _ _⟩
      · have h1 : (D.zs.length : Int) ≤ i := by omega
        clear hz
        go_enter Try.func84, Try.ntmps84
        go_wp2_with fail
        refine bodyPost_ret (v := .tuple #[.agg #[.slice A D.zs.length c, .int .i64 D.size, .int .i64 D.op, .int .i64 (D.n : Int), .bool false], .int .i64 13]) (by simp [results, Try.results84, go_sem]) rfl ?_
        rw [hfin.out]
        exact ⟨rfl, hB _ _⟩
    · obtain ⟨k, rfl⟩ := Int.eq_ofNat_of_zero_le (show 0 ≤ i by omega)
      have hk : k < D.zs.length := by omega
      have hfin := hide (Dv.begin_in k hd hk)
      have dk : decide (D.zs.length ≤ k) = false := decide_eq_false (by omega)
      rw [Bool.not_eq_true] at hd
      rw [hd]
      clear hd hz
      go_enter Try.func84, Try.ntmps84
      go_wp2_with fail
      refine bodyPost_ret (v := .tuple #[.agg #[.slice A D.zs.length c, .int .i64 D.size, .int .i64 D.op, .int .i64 ((D.n : Int) + 1), .bool false], .int .i64 0]) (by simp [results, Try.results84, go_sem]) rfl ?_
      rw [hfin.out]
      exact ⟨rfl, hB _ _⟩
end R7
end Go.Proofs.Ytdinbhanekpjoaa
