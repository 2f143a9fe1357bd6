/-
  An event: its plain form, its cells, rows of events in memory.
-/
import Derived.Test.YtdinbhanekpjoaaRel7
namespace Go.Proofs.Ytdinbhanekpjoaa
open Go.RowKit

/-- An event's four numbers and its pattern. -/
structure EvV where
  at_ : Int
  kind : Int
  zone : Int
  off : Int
  p : Sec
def EvV.cells (e : EvV) : List Value := [.int .i64 e.at_, .int .i64 e.kind, .int .i64 e.zone, .int .i64 e.off] ++ e.p.cs
def EvV.agg (e : EvV) : Value := .agg e.cells.toArray
def EvV.zero : EvV := ⟨0, 0, 0, 0, Sec.zero⟩
theorem EvV.length (e : EvV) : e.cells.length = 68 := by simp [EvV.cells, e.p.len]
theorem EvV.one (e : EvV) : ∀ v ∈ e.cells, v.oneCell' = true := fun v hv => by
  rcases List.mem_append.1 hv with h | h
  · simp at h
    rcases h with rfl | rfl | rfl | rfl <;> rfl
  · exact e.p.one v h
theorem EvV.all (e : EvV) : e.cells.toArray.all (·.oneCell') = true := by
  rw [Array.all_eq_true]
  intro i hi
  exact e.one _ (by simp)
theorem EvV.inj {e f : EvV} (h : e.cells = f.cells) : e = f := by
  obtain ⟨a, b, c, d, p⟩ := e
  obtain ⟨a', b', c', d', p'⟩ := f
  simp only [EvV.cells, List.cons_append, List.nil_append, List.cons.injEq, Value.int.injEq, true_and] at h
  obtain ⟨rfl, rfl, rfl, rfl, h⟩ := h
  rw [Sec.ext h]
/-- A block that holds an event. -/
theorem EvV.range {w : World} {g : Nat} {t : TypeId} (e : EvV) (h : Blk w g t e.cells.toArray) : w.rangeAt g 0 e.cells := fun j v hv => by
  rw [Nat.zero_add, h.cell j]
  simpa using hv
theorem EvV.four {w : World} {g o : Nat} {e : EvV} (h : w.rangeAt g o e.cells) : w.cell? ⟨g, o, none⟩ = some (.int .i64 e.at_) ∧ w.cell? ⟨g, o + 1, none⟩ = some (.int .i64 e.kind) ∧ w.cell? ⟨g, o + 2, none⟩ = some (.int .i64 e.zone) ∧ w.cell? ⟨g, o + 3, none⟩ = some (.int .i64 e.off) ∧ w.rangeAt g (o + 4) e.p.cs := by
  refine ⟨h 0 _ rfl, h 1 _ rfl, h 2 _ rfl, h 3 _ rfl, fun j v hv => ?_⟩
  have := h (4 + j) v (by unfold EvV.cells; rw [List.getElem?_append_right (by simp)]; simpa using hv)
  rwa [← Nat.add_assoc] at this
theorem EvV.blk4 {w : World} {g : Nat} {t : TypeId} {e : EvV} (h : Blk w g t e.cells.toArray) : w.cell? ⟨g, 0, none⟩ = some (.int .i64 e.at_) ∧ w.cell? ⟨g, 1, none⟩ = some (.int .i64 e.kind) ∧ w.cell? ⟨g, 2, none⟩ = some (.int .i64 e.zone) ∧ w.cell? ⟨g, 3, none⟩ = some (.int .i64 e.off) ∧ w.rangeAt g 4 e.p.cs := by
  have := EvV.four (e.range h)
  simpa using this
theorem own_ev {w : World} {g : Nat} {e : TypeId} (x : EvV) (h : w.heap[g]? = some (.cells x.cells.toArray e (0, 0))) : w.ownsRow 0 e 68 (.slice (some ⟨g, 0, none⟩) 1 1) 1 x.cells :=
  ⟨by simp [x.length], .inr ⟨g, 1, x.cells.toArray, rfl, Nat.zero_le _, h, Nat.le_refl _, by simp [maxLen], by simp [x.length], by simp [x.length, List.take_of_length_le]⟩⟩

/-! ### The cells of events, one behind the other -/
theorem evs_length (l : List EvV) : (l.flatMap EvV.cells).length = l.length * 68 := by
  induction l with
  | nil => rfl
  | cons s l ih => rw [List.flatMap_cons, List.length_append, ih, s.length, List.length_cons]; omega
theorem evs_one (l : List EvV) : ∀ v ∈ l.flatMap EvV.cells, v.oneCell' = true := fun v hv => by
  obtain ⟨s, _, hs⟩ := List.mem_flatMap.1 hv
  exact s.one v hs
theorem evs_get (l : List EvV) (k : Nat) (hk : k < l.length) (j : Nat) (hj : j < 68) : (l.flatMap EvV.cells)[k * 68 + j]? = (l[k]).cells[j]? := by
  induction l generalizing k with
  | nil => simp at hk
  | cons s l ih =>
    rw [List.flatMap_cons]
    cases k with
    | zero => rw [Nat.zero_mul, Nat.zero_add, List.getElem?_append_left (by rw [s.length]; exact hj)]; rfl
    | succ k =>
      rw [List.getElem?_append_right (by rw [s.length]; omega), s.length, show (k + 1) * 68 + j - 68 = k * 68 + j by omega]
      exact ih k (by simpa using hk)
theorem evs_take (l : List EvV) (m : Nat) : (l.take m).flatMap EvV.cells = (l.flatMap EvV.cells).take (m * 68) := by
  induction l generalizing m with
  | nil => simp
  | cons s l ih =>
    cases m with
    | zero => simp
    | succ m =>
      rw [List.take_succ_cons, List.flatMap_cons, List.flatMap_cons, ih, List.take_append, s.length, show (m + 1) * 68 - 68 = m * 68 by omega, List.take_of_length_le (l := s.cells) (by rw [s.length]; omega)]
theorem evs_drop (l : List EvV) (m : Nat) : (l.drop m).flatMap EvV.cells = (l.flatMap EvV.cells).drop (m * 68) := by
  induction l generalizing m with
  | nil => simp
  | cons s l ih =>
    cases m with
    | zero => simp
    | succ m =>
      rw [List.drop_succ_cons, List.flatMap_cons, ih, List.drop_append, s.length, show (m + 1) * 68 - 68 = m * 68 by omega, List.drop_of_length_le (l := s.cells) (by rw [s.length]; omega), List.nil_append]
theorem evs_snoc (l : List EvV) (s : EvV) : (l ++ [s]).flatMap EvV.cells = l.flatMap EvV.cells ++ s.cells := by simp

/-- The slice value .slice A n c leads to the events L, which are read alone; they lie in a block of G. -/
def Evs (w : World) (G : Nat → Prop) (A : Option Addr) (L : List EvV) : Prop :=
  L ≠ [] → ∃ b off, A = some ⟨b, off, none⟩ ∧ G b ∧ b < w.heap.size ∧ ∀ j (h : j < L.length), w.rangeAt b (off + j * 68) L[j].cells
theorem Evs.at_ {w : World} {G : Nat → Prop} {A : Option Addr} {L : List EvV} (h : Evs w G A L) {k : Nat} (hk : k < L.length) : ∃ b off, A = some ⟨b, off, none⟩ ∧ G b ∧ b < w.heap.size ∧ w.rangeAt b (off + k * 68) L[k].cells := by
  obtain ⟨b, off, e, hg, hb, hr⟩ := h (fun e => by rw [e] at hk; simp at hk)
  exact ⟨b, off, e, hg, hb, hr k hk⟩
theorem Evs.mods {w w' : World} {G S : Nat → Prop} {A : Option Addr} {L : List EvV} (h : Evs w G A L) (hm : Mods S w w') (hd : ∀ k, G k → k < w.heap.size → ¬ S k) : Evs w' G A L := fun hn => by
  obtain ⟨b, off, e, hg, hb, hr⟩ := h hn
  exact ⟨b, off, e, hg, Nat.lt_of_lt_of_le hb hm.size, fun j hj i v hv => (hm.cell (p := ⟨b, off + j * 68 + i, none⟩) hb (hd b hg hb)).trans (hr j hj i v hv)⟩
theorem Evs.below {w w' : World} {G : Nat → Prop} {A : Option Addr} {L : List EvV} (h : Evs w G A L) (hb : Below w.heap.size w w') : Evs w' G A L := h.mods (Mods.of_below hb (fun _ => False)) (fun _ _ _ h => h)
theorem Evs.mono {w : World} {G G' : Nat → Prop} {A : Option Addr} {L : List EvV} (h : Evs w G A L) (hG : ∀ k, G k → G' k) : Evs w G' A L := fun hn => by
  obtain ⟨b, off, e, hg, hb, hr⟩ := h hn
  exact ⟨b, off, e, hG b hg, hb, hr⟩
theorem Evs.tight {w : World} {G : Nat → Prop} {A : Option Addr} {L : List EvV} (h : Evs w G A L) : Evs w (fun k => G k ∧ k < w.heap.size) A L := fun hn => by
  obtain ⟨b, off, e, hg, hb, hr⟩ := h hn
  exact ⟨b, off, e, ⟨hg, hb⟩, hb, hr⟩
theorem Evs.nil (w : World) (G : Nat → Prop) (A : Option Addr) : Evs w G A [] := fun h => (h rfl).elim
/-- Without the first. -/
theorem Evs.tail {w : World} {G : Nat → Prop} {b off : Nat} {e : EvV} {L : List EvV} (h : Evs w G (some ⟨b, off, none⟩) (e :: L)) : Evs w G (some ⟨b, off + 68, none⟩) L := fun hn => by
  obtain ⟨b', off', e', hg, hb, hr⟩ := h (by simp)
  simp only [Option.some.injEq, Addr.mk.injEq, and_true] at e'
  obtain ⟨rfl, rfl⟩ := e'
  refine ⟨_, _, rfl, hg, hb, fun j hj => ?_⟩
  have := hr (j + 1) (by simpa using hj)
  rw [List.getElem_cons_succ] at this
  rwa [show off + 68 + j * 68 = off + (j + 1) * 68 by omega]
/-- A row of the call's own is read so. -/
theorem Evs.of_own {w : World} {E : TypeId} {A : Option Addr} {c : Nat} {L : List EvV} {G : Nat → Prop} (h : w.ownsRow 0 E 68 (.slice A L.length c) L.length (L.flatMap EvV.cells)) (hG : ∀ g, (Value.slice A L.length c).ownBlock = some g → G g) : Evs w G A L := fun hn => by
  rcases h.2 with ⟨h', h0⟩ | ⟨g, cap, cur, h', _, hh, hc, _, _, ht⟩
  · exact (hn (List.length_eq_zero_iff.1 h0)).elim
  · simp only [Value.slice.injEq, true_and] at h'
    obtain ⟨rfl, rfl⟩ := h'
    refine ⟨g, 0, rfl, hG g rfl, (Array.getElem?_eq_some_iff.1 hh).1, fun j hj i v hv => ?_⟩
    have hi : i < 68 := by rw [← L[j].length]; exact (List.getElem?_eq_some_iff.1 hv).1
    have := h.cells (g := g) rfl (j * 68 + i) v (by rw [evs_get L j hj i hi]; exact hv)
    simpa [Addr.add_lit, Nat.add_assoc] using this

/-! ### at Ev -/
namespace Ev
theorem info : (Try.prog.info? 66).map (fun i => (i.zero, i.size, i.bytes)) = some (some EvV.zero.agg, 68, 96) := by kernel_rfl
theorem sizeS : (Try.prog.info? 66).map (·.size) = some 68 := by kernel_rfl
theorem size (e : EvV) : (Try.prog.info? 66).map (·.size) = some e.cells.length := by rw [e.length]; exact sizeS
theorem sizeR (e : EvV) : (Try.prog.info? 66).map (·.size) = some e.cells.toArray.size := by rw [List.size_toArray]; exact size e
set_option maxRecDepth 100000 in
theorem run_build1 (x : EvV) (w : World) : (Instr.buildSlice 118 1 #[(0, .agg x.cells.toArray)]).run Try.prog w = .ok (.slice (some ⟨w.heap.size, 0, none⟩) 1 1) (w.alloc (.cells x.cells.toArray 66)) := by
  have hl := x.length
  go_simp
  rw [ZD.fold_fill _ _ (by rw [x.length]; rfl)]
theorem wp_build1 {o : Oper} {a : Act} {w : World} {K : Act → World → Prop} {Q : Exit → Act → World → Prop} (x : EvV) (p : Operand) (ho : o.op = .buildSlice 118 1 #[(0, p)]) (hp : a.eval p = .agg x.cells.toArray)
    (h : K (a.put o.dst (.slice (some ⟨w.heap.size, 0, none⟩) 1 1)) (w.alloc (.cells x.cells.toArray 66))) : o.wp Try.prog a w K Q := by
  unfold Oper.wp execOp
  simp only [ho, List.map_toArray, List.map_cons, List.map_nil, hp, Sem.run_bind, run_build1 x w, Result.andThen_ok]
  exact h
theorem wpList_build1 {ops : Array Oper} {rest : List Oper} {o : Oper} {a : Act} {w : World} {Q : Exit → Act → World → Prop} (hgd : o.guard = none) (x : EvV) (p : Operand) (ho : o.op = .buildSlice 118 1 #[(0, p)]) (hp : a.eval p = .agg x.cells.toArray)
    (h : wpList Try.prog ops Q rest (a.put o.dst (.slice (some ⟨w.heap.size, 0, none⟩) 1 1)) (w.alloc (.cells x.cells.toArray 66))) : wpList Try.prog ops Q (o :: rest) a w :=
  wpList_plain hgd fun _ hK => wp_build1 x p ho hp (hK _ _ h)
end Ev

/-! ### at E8 -/
namespace E8
theorem info : (Try.prog.info? 116).map (fun i => (i.zero, i.size, i.bytes)) = some (some EvV.zero.agg, 68, 96) := by kernel_rfl
theorem sizeS : (Try.prog.info? 116).map (·.size) = some 68 := by kernel_rfl
theorem size (e : EvV) : (Try.prog.info? 116).map (·.size) = some e.cells.length := by rw [e.length]; exact sizeS
theorem sizeR (e : EvV) : (Try.prog.info? 116).map (·.size) = some e.cells.toArray.size := by rw [List.size_toArray]; exact size e
set_option maxRecDepth 100000 in
theorem run_build1 (x : EvV) (w : World) : (Instr.buildSlice 60 1 #[(0, .agg x.cells.toArray)]).run Try.prog w = .ok (.slice (some ⟨w.heap.size, 0, none⟩) 1 1) (w.alloc (.cells x.cells.toArray 116)) := by
  have hl := x.length
  go_simp
  rw [ZD.fold_fill _ _ (by rw [x.length]; rfl)]
theorem wp_build1 {o : Oper} {a : Act} {w : World} {K : Act → World → Prop} {Q : Exit → Act → World → Prop} (x : EvV) (p : Operand) (ho : o.op = .buildSlice 60 1 #[(0, p)]) (hp : a.eval p = .agg x.cells.toArray)
    (h : K (a.put o.dst (.slice (some ⟨w.heap.size, 0, none⟩) 1 1)) (w.alloc (.cells x.cells.toArray 116))) : o.wp Try.prog a w K Q := by
  unfold Oper.wp execOp
  simp only [ho, List.map_toArray, List.map_cons, List.map_nil, hp, Sem.run_bind, run_build1 x w, Result.andThen_ok]
  exact h
theorem wpList_build1 {ops : Array Oper} {rest : List Oper} {o : Oper} {a : Act} {w : World} {Q : Exit → Act → World → Prop} (hgd : o.guard = none) (x : EvV) (p : Operand) (ho : o.op = .buildSlice 60 1 #[(0, p)]) (hp : a.eval p = .agg x.cells.toArray)
    (h : wpList Try.prog ops Q rest (a.put o.dst (.slice (some ⟨w.heap.size, 0, none⟩) 1 1)) (w.alloc (.cells x.cells.toArray 116))) : wpList Try.prog ops Q (o :: rest) a w :=
  wpList_plain hgd fun _ hK => wp_build1 x p ho hp (hK _ _ h)
end E8
end Go.Proofs.Ytdinbhanekpjoaa
