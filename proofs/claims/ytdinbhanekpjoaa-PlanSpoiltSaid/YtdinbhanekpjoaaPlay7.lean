/-
  A device's play in plain words: one step of it, and what every play keeps.
-/
import Derived.Test.YtdinbhanekpjoaaR07m
namespace Go.Proofs.Ytdinbhanekpjoaa
open Go.RowKit

/-- A step, as it came in: its numbers, its sector, and the slice of ints. -/
structure OpV where
  kind : Int
  zone : Int
  off : Int
  s : Sec
  K : Option Addr
  keep : List Int
  kc : Nat
def OpV.cells (o : OpV) : List Value := [.int .i64 o.kind, .int .i64 o.zone, .int .i64 o.off] ++ o.s.cs ++ [.slice o.K o.keep.length o.kc]
theorem OpV.length (o : OpV) : o.cells.length = 68 := by simp [OpV.cells, o.s.len]

namespace Dv
def play (D : Dv) (o : OpV) : Dv :=
  if o.kind = 1 then (D.append o.zone o.s).1 else if o.kind = 2 then (D.read o.zone o.off).1 else if o.kind = 3 then (D.reset o.zone).1 else if o.kind = 4 then (D.finish o.zone).1
  else if o.kind = 5 then D.flush.1 else if o.kind = 6 then { D with down := true } else if o.kind = 7 then D.revive o.keep else if o.kind = 8 then (D.fail o.zone o.off).1
  else if o.kind = 9 then (D.spoil o.zone o.off o.s).1 else D
/-- What a play keeps, m: how many steps there were. -/
structure Ok (m : Nat) (D : Dv) : Prop where
  n : D.n ≤ m
  zs : ∀ x ∈ D.zs, x.L.length ≤ m ∧ x.safe ≤ x.L.length ∧ x.state ≤ 4 ∧ x.size = D.size
/-- D' has D's form. -/
structure Like (D D' : Dv) : Prop where
  len : D'.zs.length = D.zs.length
  size : D'.size = D.size
  op : D'.op = D.op
theorem Like.refl (D : Dv) : D.Like D := ⟨rfl, rfl, rfl⟩
theorem Like.trans {D D' D'' : Dv} (h : D.Like D') (k : D'.Like D'') : D.Like D'' := ⟨k.len.trans h.len, k.size.trans h.size, k.op.trans h.op⟩
theorem like_tick (D : Dv) : D.Like D.tick := ⟨rfl, rfl, rfl⟩
theorem like_put (D : Dv) (k : Nat) (z : Zn Sec) : D.Like (D.put k z) := ⟨by simp [put], rfl, rfl⟩
theorem like_begin (D : Dv) (z : Int) : D.Like (D.begin_ z).1 := by
  rcases R7.begin_fst D z with e | e <;> rw [e]
  · exact .refl D
  · exact like_tick D
theorem like_mapTo (D : Dv) (f : Nat → Zn Sec → Zn Sec) (k : Nat) : D.Like (D.mapTo f k) := ⟨by simp [mapTo], rfl, rfl⟩
theorem Ok.mono {D : Dv} {m m' : Nat} (h : D.Ok m) (hm : m ≤ m') : D.Ok m' := ⟨Nat.le_trans h.n hm, fun x hx => by obtain ⟨a, b⟩ := h.zs x hx; exact ⟨by omega, b⟩⟩
theorem Ok.tick {D : Dv} {m : Nat} (h : D.Ok m) : D.tick.Ok (m + 1) := ⟨by have := h.n; simp [Dv.tick]; omega, fun x hx => by obtain ⟨a, b⟩ := h.zs x hx; exact ⟨by omega, b⟩⟩
theorem Ok.begin {D : Dv} {m : Nat} (h : D.Ok m) (z : Int) : (D.begin_ z).1.Ok (m + 1) := by
  rcases R7.begin_fst D z with e | e <;> rw [e]
  · exact h.mono (by omega)
  · exact h.tick
theorem Ok.put {D : Dv} {m : Nat} (h : D.Ok m) (k : Nat) (z : Zn Sec) (hz : z.L.length ≤ m ∧ z.safe ≤ z.L.length ∧ z.state ≤ 4 ∧ z.size = D.size) : (D.put k z).Ok m := ⟨h.n, fun x hx => by
  rcases List.mem_or_eq_of_mem_set hx with h1 | rfl
  · exact h.zs x h1
  · exact hz⟩
theorem Ok.get {D : Dv} {m : Nat} (h : D.Ok m) {k : Nat} {x : Zn Sec} (hx : D.zs[k]? = some x) : x.L.length ≤ m ∧ x.safe ≤ x.L.length ∧ x.state ≤ 4 ∧ x.size = D.size := h.zs x (List.mem_of_getElem? hx)

section
variable {D : Dv} {m : Nat}
theorem zn_append {z : Zn Sec} {s : Sec} {size : Int} (h : z.L.length ≤ m ∧ z.safe ≤ z.L.length ∧ z.state ≤ 4 ∧ z.size = size) : (z.append s).1.L.length ≤ m + 1 ∧ (z.append s).1.safe ≤ (z.append s).1.L.length ∧ (z.append s).1.state ≤ 4 ∧ (z.append s).1.size = size := by
  obtain ⟨a, b, c, d⟩ := h
  unfold Zn.append
  split
  · exact ⟨by dsimp only; omega, b, c, d⟩
  · split
    · exact ⟨by dsimp only; omega, b, c, d⟩
    · refine ⟨by simp; omega, by simp; omega, ?_, d⟩
      dsimp only
      split <;> omega
theorem zn_reset {z : Zn Sec} {size : Int} (h : z.L.length ≤ m ∧ z.safe ≤ z.L.length ∧ z.state ≤ 4 ∧ z.size = size) : z.reset.1.L.length ≤ m ∧ z.reset.1.safe ≤ z.reset.1.L.length ∧ z.reset.1.state ≤ 4 ∧ z.reset.1.size = size := by
  unfold Zn.reset
  split
  · exact h
  · exact ⟨by simp, by simp, by simp, h.2.2.2⟩
theorem zn_finish {z : Zn Sec} {size : Int} (h : z.L.length ≤ m ∧ z.safe ≤ z.L.length ∧ z.state ≤ 4 ∧ z.size = size) : z.finish.1.L.length ≤ m ∧ z.finish.1.safe ≤ z.finish.1.L.length ∧ z.finish.1.state ≤ 4 ∧ z.finish.1.size = size := by
  unfold Zn.finish
  split
  · exact h
  · exact ⟨h.1, h.2.1, by simp, h.2.2.2⟩
theorem zn_flush {z : Zn Sec} {size : Int} (h : z.L.length ≤ m ∧ z.safe ≤ z.L.length ∧ z.state ≤ 4 ∧ z.size = size) : z.flush.L.length ≤ m ∧ z.flush.safe ≤ z.flush.L.length ∧ z.flush.state ≤ 4 ∧ z.flush.size = size := ⟨h.1, Nat.le_refl _, h.2.2.1, h.2.2.2⟩
theorem zn_crash {z : Zn Sec} {k : Int} {size : Int} (h : z.L.length ≤ m ∧ z.safe ≤ z.L.length ∧ z.state ≤ 4 ∧ z.size = size) : (z.crash k).L.length ≤ m ∧ (z.crash k).safe ≤ (z.crash k).L.length ∧ (z.crash k).state ≤ 4 ∧ (z.crash k).size = size := by
  obtain ⟨a, b, c, d⟩ := h
  have hl := Zn.left_le k b
  refine ⟨by simp [Zn.crash]; omega, by simp [Zn.crash]; omega, ?_, d⟩
  unfold Zn.crash
  dsimp only
  split
  · exact c
  · split
    · omega
    · split <;> omega
theorem zn_fail {z : Zn Sec} {s : Int} {size : Int} (h : z.L.length ≤ m ∧ z.safe ≤ z.L.length ∧ z.state ≤ 4 ∧ z.size = size) : (z.fail s).L.length ≤ m ∧ (z.fail s).safe ≤ (z.fail s).L.length ∧ (z.fail s).state ≤ 4 ∧ (z.fail s).size = size := by
  unfold Zn.fail
  split
  · exact ⟨h.1, h.2.1, by dsimp only; omega, h.2.2.2⟩
  · exact h
theorem zn_change {z : Zn Sec} {f : Sec → Sec} {off : Int} {size : Int} (h : z.L.length ≤ m ∧ z.safe ≤ z.L.length ∧ z.state ≤ 4 ∧ z.size = size) : (z.change f off).1.L.length ≤ m ∧ (z.change f off).1.safe ≤ (z.change f off).1.L.length ∧ (z.change f off).1.state ≤ 4 ∧ (z.change f off).1.size = size := by
  unfold Zn.change
  split
  · exact h
  · exact ⟨by simpa using h.1, by simpa using h.2.1, h.2.2.1, h.2.2.2⟩
theorem Ok.mapTo (h : D.Ok m) (f : Nat → Zn Sec → Zn Sec) (k : Nat) (hf : ∀ i x, (x.L.length ≤ m ∧ x.safe ≤ x.L.length ∧ x.state ≤ 4 ∧ x.size = D.size) → ((f i x).L.length ≤ m ∧ (f i x).safe ≤ (f i x).L.length ∧ (f i x).state ≤ 4 ∧ (f i x).size = D.size)) : (D.mapTo f k).Ok m := by
  refine ⟨h.n, fun x hx => ?_⟩
  obtain ⟨i, hi, rfl⟩ := List.getElem_of_mem hx
  have hi' : i < D.zs.length := by have := (like_mapTo D f k).len; omega
  have hx := h.zs _ (List.getElem_mem hi')
  simp only [Dv.mapTo, List.getElem_mapIdx]
  split
  · exact hf i _ hx
  · exact hx

theorem append_ok (h : D.Ok m) (z : Int) (s : Sec) : (D.append z s).1.Ok (m + 1) ∧ D.Like (D.append z s).1 := by
  unfold append
  split
  · exact ⟨h.begin z, like_begin D z⟩
  · split
    · rename_i x hx
      split
      · exact ⟨h.tick, like_tick D⟩
      · exact ⟨h.tick.put _ _ (zn_append (h.get hx)), (like_tick D).trans (like_put _ _ _)⟩
    · exact ⟨h.mono (by omega), .refl D⟩
theorem read_ok (h : D.Ok m) (z off : Int) : (D.read z off).1.Ok (m + 1) ∧ D.Like (D.read z off).1 := by
  unfold read
  split
  · exact ⟨h.begin z, like_begin D z⟩
  · split
    · exact ⟨h.tick, like_tick D⟩
    · exact ⟨h.mono (by omega), .refl D⟩
theorem reset_ok (h : D.Ok m) (z : Int) : (D.reset z).1.Ok (m + 1) ∧ D.Like (D.reset z).1 := by
  unfold reset answer
  split
  · exact ⟨h.begin z, like_begin D z⟩
  · split
    · rename_i x hx
      obtain ⟨a, b⟩ := zn_reset (h.get hx)
      exact ⟨h.tick.put _ _ ⟨by omega, b⟩, (like_tick D).trans (like_put _ _ _)⟩
    · exact ⟨h.mono (by omega), .refl D⟩
theorem finish_ok (h : D.Ok m) (z : Int) : (D.finish z).1.Ok (m + 1) ∧ D.Like (D.finish z).1 := by
  unfold finish answer
  split
  · exact ⟨h.begin z, like_begin D z⟩
  · split
    · rename_i x hx
      obtain ⟨a, b⟩ := zn_finish (h.get hx)
      exact ⟨h.tick.put _ _ ⟨by omega, b⟩, (like_tick D).trans (like_put _ _ _)⟩
    · exact ⟨h.mono (by omega), .refl D⟩
theorem flush_ok (h : D.Ok m) : D.flush.1.Ok (m + 1) ∧ D.Like D.flush.1 := by
  unfold flush
  split
  · exact ⟨h.mono (by omega), .refl D⟩
  · exact ⟨h.tick.mapTo _ _ (fun _ x hx => zn_flush hx), (like_tick D).trans (like_mapTo _ _ _)⟩
theorem revive_ok (h : D.Ok m) (keep : List Int) : (D.revive keep).Ok m ∧ D.Like (D.revive keep) := by
  unfold revive
  split
  · have h1 := h.mapTo (fun i z => z.crash (kept keep i)) D.zs.length (fun _ x hx => zn_crash hx)
    have h2 := like_mapTo D (fun i z => z.crash (kept keep i)) D.zs.length
    exact ⟨⟨h1.n, h1.zs⟩, ⟨h2.len, h2.size, h2.op⟩⟩
  · exact ⟨h, .refl D⟩
theorem fail_ok (h : D.Ok m) (z s : Int) : (D.fail z s).1.Ok m ∧ D.Like (D.fail z s).1 := by
  unfold fail
  split
  · exact ⟨h, .refl D⟩
  · split
    · rename_i x hx
      exact ⟨h.put _ _ (zn_fail (h.get hx)), like_put _ _ _⟩
    · exact ⟨h, .refl D⟩
theorem spoil_ok (h : D.Ok m) (z off : Int) (p : Sec) : (D.spoil z off p).1.Ok m ∧ D.Like (D.spoil z off p).1 := by
  unfold spoil
  split
  · exact ⟨h, .refl D⟩
  · split
    · rename_i x hx
      exact ⟨h.put _ _ (zn_change (h.get hx)), like_put _ _ _⟩
    · exact ⟨h, .refl D⟩
theorem play_ok (h : D.Ok m) (o : OpV) : (D.play o).Ok (m + 1) ∧ D.Like (D.play o) := by
  have up : ∀ {D' : Dv}, D'.Ok m ∧ D.Like D' → D'.Ok (m + 1) ∧ D.Like D' := fun h => ⟨h.1.mono (by omega), h.2⟩
  unfold play
  split
  · exact append_ok h _ _
  split
  · exact read_ok h _ _
  split
  · exact reset_ok h _
  split
  · exact finish_ok h _
  split
  · exact flush_ok h
  split
  · exact ⟨⟨by have := h.n; simp; omega, (h.mono (Nat.le_succ m)).zs⟩, ⟨rfl, rfl, rfl⟩⟩
  split
  · exact up (revive_ok h _)
  split
  · exact up (fail_ok h _ _)
  split
  · exact up (spoil_ok h _ _ _)
  · exact up ⟨h, .refl D⟩
end
end Dv
end Go.Proofs.Ytdinbhanekpjoaa
