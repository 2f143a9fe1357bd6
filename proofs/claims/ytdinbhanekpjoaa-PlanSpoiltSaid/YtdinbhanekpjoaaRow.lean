/-
  Whole rows: a block that is written as a whole, and a sector as a result. Nothing here speaks of the program.
-/
import Derived.Test.YtdinbhanekpjoaaDKit
import Derived.Laws.ResultCell
import Derived.Laws.Rows
namespace Go.Proofs.Ytdinbhanekpjoaa
open Go.RowKit

section
variable {w w' a : World} {g k : Nat} {t : TypeId} {cs cs' : Array Value} {S : Nat → Prop}
theorem Blk.setRow (h : Blk w g t cs) (cs' : Array Value) : Blk (w.setRow g cs') g t cs' := setRow_heap w g cs cs' t (0, 0) h
theorem Blk.setRow_far (h : Blk w g t cs) (hne : g ≠ k) (cs' : Array Value) : Blk (w.setRow k cs') g t cs := (setRow_other w k g cs' hne).trans h
theorem size_setRow (w : World) (g : Nat) (cs : Array Value) : (w.setRow g cs).heap.size = w.heap.size := by simp [World.setRow]
theorem Mods.setRow (h : Mods S a w) (hg : S g ∨ a.heap.size ≤ g) (cs : Array Value) : Mods S a (w.setRow g cs) :=
  ⟨h.os, h.tape, h.output, by rw [size_setRow]; exact h.size, fun i hi hne => (setRow_other w g i cs (by
    rintro rfl
    rcases hg with hg | hg
    · exact hne hg
    · omega)).trans (h.block i hi hne)⟩
theorem below_setRow {n : Nat} (h : Below n a w) (hg : n ≤ g) (cs : Array Value) : Below n a (w.setRow g cs) :=
  ⟨h.os, h.tape, h.output, by rw [size_setRow]; exact h.size, fun i hi => (setRow_other w g i cs (by omega)).trans (h.block i hi)⟩
theorem below_drewN {B : Nat} (h : Below B a w) (n : Nat) : Below B a (w.drewN n) := ⟨h.os, h.tape, h.output, h.size, h.block⟩
/-- A function's results: a sector that lies in a block, and a number. -/
theorem results_sec2 {P : Program} {fn : Func} {p u : Tmp} {ty : TypeId} {n : Nat} {e : TypeId} (h : fn.results = #[.cell p ty, .tmp u]) (hu : P.underlying ty = some (.array n e)) (hs : (P.info? ty).map (·.size) = some 64)
    (tmps : Array Value) (x : Sec) (v : Value) (hp : tmps.getD p undef = .pointer (some ⟨g, 0, none⟩)) (hv : tmps.getD u undef = v) (hg : Blk w g t x.cs.toArray) : (results fn tmps).run P w = .ok (.tuple #[x.agg, v]) w := by
  subst hv
  rw [results_cell_tmp h, hp]
  simp only [asAddr, Sem.run_pure, Result.andThen_ok, run_loadVar_row (P := P) w g t ty x.cs.toArray (0, 0) _ hg hu rfl (by rw [hs]; simp [x.len])]
  rfl
theorem results_sec1 {P : Program} {fn : Func} {p : Tmp} {ty : TypeId} {n : Nat} {e : TypeId} (h : fn.results = #[.cell p ty]) (hu : P.underlying ty = some (.array n e)) (hs : (P.info? ty).map (·.size) = some 64)
    (tmps : Array Value) (x : Sec) (hp : tmps.getD p undef = .pointer (some ⟨g, 0, none⟩)) (hg : Blk w g t x.cs.toArray) : (results fn tmps).run P w = .ok x.agg w :=
  results_cell_row h tmps w g t x.cs.toArray (0, 0) _ hp hg hu rfl (by rw [hs]; simp [x.len])
theorem sec_all (x : Sec) : x.cs.toArray.all (·.oneCell') = true := by
  rw [Array.all_eq_true_iff_forall_mem]
  exact fun v hv => x.one v (by simpa using hv)
end
end Go.Proofs.Ytdinbhanekpjoaa
