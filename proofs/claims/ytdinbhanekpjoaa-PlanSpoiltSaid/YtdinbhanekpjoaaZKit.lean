/-
  Small words for memory that the proofs of this seat share: a block known whole, what a call may have turned, and the plain form of a zone. Nothing here speaks of the program.
-/
import Derived.WalkKit
import Derived.WalkSpells
import Derived.WalkLawsBesides
import Derived.Maps.AppendAt
import Derived.Laws.AppendOwnNone
import Derived.Deep.Draws
namespace Go.Proofs.Ytdinbhanekpjoaa
open Go.RowKit

theorem hide {p : Prop} (h : p) : Hid p := h

/-- Block g is just the cells cs of element type t, none frozen. -/
def Blk (w : World) (g : Nat) (t : TypeId) (cs : Array Value) : Prop := w.heap[g]? = some (.cells cs t (0, 0))

section
variable {w w' : World} {g : Nat} {t : TypeId} {cs : Array Value}
theorem Blk.lt (h : Blk w g t cs) : g < w.heap.size := by
  rcases Nat.lt_or_ge g w.heap.size with hlt | hge
  · exact hlt
  · unfold Blk at h; rw [Array.getElem?_eq_none hge] at h; cases h
theorem Blk.cell (h : Blk w g t cs) (i : Nat) : w.cell? ⟨g, i, none⟩ = cs[i]? := cell_of_row w g i cs t (0, 0) h
theorem Blk.frozen (h : Blk w g t cs) (i : Nat) : w.frozen? ⟨g, i, none⟩ = false := by
  unfold Blk at h
  simp [World.frozen?, h]
theorem Blk.new (w : World) (t : TypeId) (cs : Array Value) : Blk (w.alloc (.cells cs t)) w.heap.size t cs := heap_alloc_new w _
theorem Blk.drew (h : Blk w g t cs) : Blk w.drew g t cs := h
theorem Blk.drewN (h : Blk w g t cs) (n : Nat) : Blk (w.drewN n) g t cs := h
theorem Blk.alloc (h : Blk w g t cs) (o : Obj) : Blk (w.alloc o) g t cs := (Below.heap_alloc w o g h.lt).trans h
theorem Blk.set_ (h : Blk w g t cs) (i : Nat) (u : Value) : Blk (w.setCell ⟨g, i, none⟩ u) g t (cs.setIfInBounds i u) := by
  unfold Blk at h ⊢
  simp [World.setCell, Array.getElem?_modify, h]
theorem Blk.far (h : Blk w g t cs) {p : Addr} (hp : g ≠ p.block) (u : Value) : Blk (w.setCell p u) g t cs := (Below.heap_setCell w p u g hp).trans h
theorem Blk.grown {row : Option Nat} (h : Blk w g t cs) (hb : w.grownBy w' row) (hg : some g ≠ row) : Blk w' g t cs := (hb.block g h.lt hg).trans h
theorem Blk.of_heap {k : Nat} (h : Blk w g t cs) (he : w'.heap[g]? = w.heap[g]?) (_hk : k = g) : Blk w' g t cs := he.trans h
end

theorem Blk.set5 {w : World} {g : Nat} {t : TypeId} {u0 u1 u2 u3 u4 : Value} (h : Blk w g t #[u0, u1, u2, u3, u4]) (v0 v1 v2 v3 v4 : Value) :
    Blk (((((w.setCell ⟨g, 0, none⟩ v0).setCell ⟨g, 1, none⟩ v1).setCell ⟨g, 2, none⟩ v2).setCell ⟨g, 3, none⟩ v3).setCell ⟨g, 4, none⟩ v4) g t #[v0, v1, v2, v3, v4] :=
  ((((h.set_ 0 v0).set_ 1 v1).set_ 2 v2).set_ 3 v3).set_ 4 v4
/-- The cells of a block of five, and their marks. -/
theorem Blk.five {w : World} {g : Nat} {t : TypeId} {v0 v1 v2 v3 v4 : Value} (h : Blk w g t #[v0, v1, v2, v3, v4]) :
    w.cell? ⟨g, 0, none⟩ = some v0 ∧ w.cell? ⟨g, 1, none⟩ = some v1 ∧ w.cell? ⟨g, 2, none⟩ = some v2 ∧ w.cell? ⟨g, 3, none⟩ = some v3 ∧ w.cell? ⟨g, 4, none⟩ = some v4 ∧
    w.frozen? ⟨g, 0, none⟩ = false ∧ w.frozen? ⟨g, 1, none⟩ = false ∧ w.frozen? ⟨g, 2, none⟩ = false ∧ w.frozen? ⟨g, 3, none⟩ = false ∧ w.frozen? ⟨g, 4, none⟩ = false :=
  ⟨h.cell 0, h.cell 1, h.cell 2, h.cell 3, h.cell 4, h.frozen 0, h.frozen 1, h.frozen 2, h.frozen 3, h.frozen 4⟩
theorem Blk.three {w : World} {g : Nat} {t : TypeId} {v0 v1 v2 : Value} (h : Blk w g t #[v0, v1, v2]) :
    w.cell? ⟨g, 0, none⟩ = some v0 ∧ w.cell? ⟨g, 1, none⟩ = some v1 ∧ w.cell? ⟨g, 2, none⟩ = some v2 ∧ w.frozen? ⟨g, 0, none⟩ = false ∧ w.frozen? ⟨g, 1, none⟩ = false ∧ w.frozen? ⟨g, 2, none⟩ = false :=
  ⟨h.cell 0, h.cell 1, h.cell 2, h.frozen 0, h.frozen 1, h.frozen 2⟩

/-- What a call may have turned: the blocks of S alone; and it may have laid new ones. -/
structure Mods (S : Nat → Prop) (w w' : World) : Prop where
  os : w'.os = w.os
  tape : w'.tape = w.tape
  output : w'.output = w.output
  size : w.heap.size ≤ w'.heap.size
  block : ∀ k, k < w.heap.size → ¬ S k → w'.heap[k]? = w.heap[k]?

section
variable {S S' : Nat → Prop} {a w w' : World}
theorem Mods.refl (S : Nat → Prop) (w : World) : Mods S w w := ⟨rfl, rfl, rfl, Nat.le_refl _, fun _ _ _ => rfl⟩
/-- The second step may turn what the first one laid. -/
theorem Mods.trans (h : Mods S a w) (k : Mods S' w w') (hS : ∀ i, i < a.heap.size → S' i → S i) : Mods S a w' :=
  ⟨k.os.trans h.os, k.tape.trans h.tape, k.output.trans h.output, Nat.le_trans h.size k.size,
    fun i hi hn => (k.block i (Nat.lt_of_lt_of_le hi h.size) (fun hs => hn (hS i hi hs))).trans (h.block i hi hn)⟩
theorem Mods.mono (h : Mods S a w) (hS : ∀ i, i < a.heap.size → S i → S' i) : Mods S' a w :=
  ⟨h.os, h.tape, h.output, h.size, fun i hi hn => h.block i hi (fun hs => hn (hS i hi hs))⟩
theorem Mods.drew (h : Mods S a w) : Mods S a w.drew := ⟨h.os, h.tape, h.output, h.size, h.block⟩
theorem Mods.drewN (h : Mods S a w) (n : Nat) : Mods S a (w.drewN n) := ⟨h.os, h.tape, h.output, h.size, h.block⟩
theorem Mods.alloc (h : Mods S a w) (o : Obj) : Mods S a (w.alloc o) :=
  ⟨h.os, h.tape, h.output, Nat.le_trans h.size (by simp), fun i hi hne => (Below.heap_alloc w o i (Nat.lt_of_lt_of_le hi h.size)).trans (h.block i hi hne)⟩
theorem Mods.setCell (h : Mods S a w) {p : Addr} (hp : S p.block ∨ a.heap.size ≤ p.block) (u : Value) : Mods S a (w.setCell p u) :=
  ⟨h.os, h.tape, h.output, by simpa [World.setCell] using h.size, fun i hi hne => (Below.heap_setCell w p u i (by
    rintro rfl
    rcases hp with hp | hp
    · exact hne hp
    · omega)).trans (h.block i hi hne)⟩
theorem Mods.grown (h : Mods S a w) {row : Option Nat} (hg : w.grownBy w' row) (hr : ∀ k, row = some k → S k ∨ a.heap.size ≤ k) : Mods S a w' :=
  ⟨hg.os.trans h.os, hg.tape.trans h.tape, hg.output.trans h.output, Nat.le_trans h.size hg.size,
    fun i hi hne => (hg.block i (Nat.lt_of_lt_of_le hi h.size) (fun e => by
      rcases hr i e.symm with hs | hs
      · exact hne hs
      · omega)).trans (h.block i hi hne)⟩
theorem Mods.set5 (S : Nat → Prop) (w : World) (g : Nat) (v0 v1 v2 v3 v4 : Value) (h : S g) : Mods S w (((((w.setCell ⟨g, 0, none⟩ v0).setCell ⟨g, 1, none⟩ v1).setCell ⟨g, 2, none⟩ v2).setCell ⟨g, 3, none⟩ v3).setCell ⟨g, 4, none⟩ v4) :=
  ((((((Mods.refl S w).setCell (p := ⟨g, 0, none⟩) (.inl h) v0).setCell (p := ⟨g, 1, none⟩) (.inl h) v1).setCell (p := ⟨g, 2, none⟩) (.inl h) v2).setCell (p := ⟨g, 3, none⟩) (.inl h) v3).setCell (p := ⟨g, 4, none⟩) (.inl h) v4)
theorem Mods.below {B : Nat} (h : Mods S w w') (hB : B ≤ w.heap.size) (hS : ∀ k, S k → B ≤ k) : Below B w w' :=
  ⟨h.os, h.tape, h.output, h.size, fun k hk => h.block k (by omega) (fun hs => by have := hS k hs; omega)⟩
theorem Mods.of_below (h : Below w.heap.size w w') (S : Nat → Prop) : Mods S w w' := ⟨h.os, h.tape, h.output, h.size, fun k hk _ => h.block k hk⟩
theorem Blk.mods {g : Nat} {t : TypeId} {cs : Array Value} (h : Blk w g t cs) (hm : Mods S w w') (hn : ¬ S g) : Blk w' g t cs := (hm.block g h.lt hn).trans h
theorem Mods.cell (h : Mods S w w') {p : Addr} (hp : p.block < w.heap.size) (hn : ¬ S p.block) : w'.cell? p = w.cell? p := World.cell?_of_block (w := w) (h.block p.block hp hn)
theorem own_mods {base : Nat} {e : TypeId} {size n : Nat} {v : Value} {xs : List Value} (h : w.ownsRow base e size v n xs) (hm : Mods S w w') (hn : ∀ g, v.ownBlock = some g → ¬ S g) : w'.ownsRow base e size v n xs := by
  refine ⟨h.1, ?_⟩
  rcases h.2 with hn' | ⟨g, cap, cur, rfl, hb, hgg, rest⟩
  · exact .inl hn'
  · refine .inr ⟨g, cap, cur, rfl, hb, ?_, rest⟩
    rw [hm.block g (Array.getElem?_eq_some_iff.1 hgg).1 (hn g rfl)]
    exact hgg
end

/-- A slice value with its three parts. -/
theorem own_form {w : World} {base : Nat} {e : TypeId} {size n : Nat} {v : Value} {xs : List Value} (h : w.ownsRow base e size v n xs) :
    ∃ (A : Option Addr) (c : Nat), v = .slice A n c := by
  rcases h.2 with ⟨rfl, rfl⟩ | ⟨g, cap, cur, rfl, _⟩
  · exact ⟨_, _, rfl⟩
  · exact ⟨_, _, rfl⟩

theorem own_base {w : World} {base : Nat} {e : TypeId} {size n : Nat} {v : Value} {xs : List Value} (h : w.ownsRow base e size v n xs) : w.ownsRow 0 e size v n xs := by
  refine ⟨h.1, ?_⟩
  rcases h.2 with hn | ⟨g, cap, cur, rfl, hb, rest⟩
  · exact .inl hn
  · exact .inr ⟨g, cap, cur, rfl, Nat.zero_le _, rest⟩

theorem own_cap {w : World} {base : Nat} {e : TypeId} {size n c : Nat} {A : Option Addr} {xs : List Value} (h : w.ownsRow base e size (.slice A n c) n xs) : n ≤ c ∧ c ≤ maxLen ∧ (A = none → n = 0 ∧ c = 0) := by
  rcases h.2 with ⟨h, rfl⟩ | ⟨g, cap, cur, h, _, _, hc, hm, _⟩
  · simp only [Value.slice.injEq] at h
    obtain ⟨rfl, _, rfl⟩ := h
    simp [maxLen]
  · simp only [Value.slice.injEq] at h
    obtain ⟨rfl, _, rfl⟩ := h
    exact ⟨hc, hm, fun e => by cases e⟩
theorem own_cells {w : World} {base : Nat} {e : TypeId} {size n c : Nat} {A : Option Addr} {xs : List Value} (h : w.ownsRow base e size (.slice A n c) n xs) : ∀ ad, A = some ad → ∀ j u, xs[j]? = some u → w.cell? (ad.add j) = some u := by
  rintro ad rfl j u hu
  rcases h.2 with ⟨h', rfl⟩ | ⟨g, cap, cur, h', _⟩
  · simp at h'
  · simp only [Value.slice.injEq, Option.some.injEq, true_and] at h'
    obtain ⟨rfl, rfl⟩ := h'
    exact h.cells (g := g) rfl j u hu
theorem own_lt {w : World} {base : Nat} {e : TypeId} {size n : Nat} {v : Value} {xs : List Value} (h : w.ownsRow base e size v n xs) : ∀ g, v.ownBlock = some g → g < w.heap.size :=
  fun g hg => (h.lt g hg).2

/-- append onto a row of the call's own, the source a whole row, nil or not. -/
theorem wpList_append_src {P : Program} (w : World) {ops : Array Oper} {rest : List Oper} {o : Oper} {a : Act} {Q : Exit → Act → World → Prop} (hgd : o.guard = none) (s x : Operand) (t : TypeId)
    (ho : o.op = .call { callee := .builtin .append, args := #[s, x], argTypes := #[t, t] })
    (base : Nat) (e : TypeId) (i : TypeInfo) (z : Value) (size bytes : Nat) (ht : P.underlying t = some (.slice e)) (hi : P.info? e = some i) (hz : i.zero = some z)
    (hsize : i.size = size) (hby : i.bytes = bytes) (hzs : z.cells.size = size) (hsz : 0 < size)
    (v : Value) (n : Nat) (xs : List Value) (hs : a.eval s = v) (hown : w.ownsRow base e size v n xs)
    (A : Option Addr) (m c : Nat) (news : List Value) (hx : a.eval x = .slice A m c) (hsrc : w.ownsRow 0 e size (.slice A m c) m news) (h1 : ∀ u ∈ news, u.oneCell' = true)
    (h63 : n + m ≤ maxLen) (hbytes : (n + m) * bytes ≤ 140737488355328) (hbase : base ≤ w.heap.size)
    (h : ∀ v' w', w'.ownsRow base e size v' (n + m) (xs ++ news) → w.grownBy w' v.ownBlock → (v'.ownBlock = v.ownBlock ∨ v'.ownBlock = some w.heap.size) → wpList P ops Q rest (a.put o.dst v') w') :
    wpList P ops Q (o :: rest) a w := by
  cases A with
  | none =>
    obtain ⟨rfl, rfl⟩ := (own_cap hsrc).2.2 rfl
    have hn : news = [] := List.eq_nil_of_length_eq_zero (by simpa using hsrc.1)
    subst hn
    refine wpList_append_own_none hgd s x t ho base e i size ht hi v n xs hs hown hx ?_
    exact h v w (by simpa using hown) (World.grownBy.refl w _) (.inl rfl)
  | some ad =>
    refine wpList_append_own_at w hgd s x t ho base e i z size bytes ht hi hz hsize hby hzs hsz v n xs hs hown ad m c news hx hsrc.1 (own_cells hsrc ad rfl) h1 h63 hbytes hbase ?_
    exact fun v' w' h2 h3 _ h5 => h v' w' h2 h3 h5

/-- The plain form of a zone. -/
structure Zn (α : Type) where
  L : List α
  size : Int
  safe : Nat
  state : Int
  fin : Bool

def failedOf (s : Int) : Int := if s = 4 then 32 else if s = 3 then 30 else 0

theorem failedOf_zero {s : Int} (h4 : s ≠ 4) (h3 : s ≠ 3) : failedOf s = 0 := by simp [failedOf, h4, h3]
theorem failedOf_ne {s : Int} (h : s = 4 ∨ s = 3) : failedOf s ≠ 0 := by rcases h with rfl | rfl <;> decide

namespace Zn
variable {α : Type}
def new (size : Int) : Zn α := { L := [], size, safe := 0, state := 0, fin := false }
def append (z : Zn α) (x : α) : Zn α × Int × Int :=
  if failedOf z.state ≠ 0 then (z, 0, failedOf z.state)
  else if z.state = 2 then (z, 0, 17)
  else ({ z with L := z.L ++ [x], state := if ((z.L.length + 1 : Nat) : Int) = z.size then 2 else 1 }, z.L.length, 0)
def read (z : Zn α) (d : α) (off : Int) : α × Int :=
  if z.state = 4 then (d, 32) else if off < 0 ∨ z.L.length ≤ off then (d, 31) else (z.L[off.toNat]?.getD d, 0)
def reset (z : Zn α) : Zn α × Int :=
  if failedOf z.state ≠ 0 then (z, failedOf z.state) else ({ L := [], size := z.size, safe := 0, state := 0, fin := false }, 0)
def finish (z : Zn α) : Zn α × Int :=
  if failedOf z.state ≠ 0 then (z, failedOf z.state) else ({ z with state := 2, fin := true }, 0)
def flush (z : Zn α) : Zn α := { z with safe := z.L.length }
def left (z : Zn α) (keep : Int) : Nat := z.safe + min keep.toNat (z.L.length - z.safe)
def crash (z : Zn α) (keep : Int) : Zn α :=
  { z with L := z.L.take (z.left keep), safe := z.left keep,
           state := if 3 ≤ z.state then z.state else if z.fin = true ∨ ((z.left keep : Nat) : Int) = z.size then 2 else if z.left keep = 0 then 0 else 1 }
def fail (z : Zn α) (s : Int) : Zn α := if s = 4 ∨ (s = 3 ∧ z.state ≠ 4) then { z with state := s } else z
theorem append_failed {z : Zn α} (x : α) (h : ¬ failedOf z.state = 0) : z.append x = (z, 0, failedOf z.state) := by rw [append, if_pos h]
theorem append_full {z : Zn α} (x : α) (h : failedOf z.state = 0) (h2 : z.state = 2) : z.append x = (z, 0, 17) := by rw [append, if_neg (by simpa using h), if_pos h2]
theorem append_last {z : Zn α} (x : α) (h : failedOf z.state = 0) (h2 : ¬ z.state = 2) (hl : ((z.L.length + 1 : Nat) : Int) = z.size) :
    z.append x = ({ z with L := z.L ++ [x], state := 2 }, (z.L.length : Int), 0) := by rw [append, if_neg (by simpa using h), if_neg h2, if_pos hl]
theorem append_more {z : Zn α} (x : α) (h : failedOf z.state = 0) (h2 : ¬ z.state = 2) (hl : ¬ ((z.L.length + 1 : Nat) : Int) = z.size) :
    z.append x = ({ z with L := z.L ++ [x], state := 1 }, (z.L.length : Int), 0) := by rw [append, if_neg (by simpa using h), if_neg h2, if_neg hl]
theorem read_off {z : Zn α} (d : α) (off : Int) (h : z.state = 4) : z.read d off = (d, 32) := by rw [read, if_pos h]
theorem read_out {z : Zn α} (d : α) (off : Int) (h : ¬ z.state = 4) (h2 : off < 0 ∨ (z.L.length : Int) ≤ off) : z.read d off = (d, 31) := by rw [read, if_neg h, if_pos h2]
theorem read_in {z : Zn α} (d : α) (k : Nat) (h : ¬ z.state = 4) (h2 : k < z.L.length) : z.read d (k : Int) = (z.L[k], 0) := by
  rw [read, if_neg h, if_neg (by omega)]; simp [h2]
theorem reset_failed {z : Zn α} (h : ¬ failedOf z.state = 0) : z.reset = (z, failedOf z.state) := by rw [reset, if_pos h]
theorem reset_ok {z : Zn α} (h : failedOf z.state = 0) : z.reset = ({ L := [], size := z.size, safe := 0, state := 0, fin := false }, 0) := by rw [reset, if_neg (by simpa using h)]
theorem finish_failed {z : Zn α} (h : ¬ failedOf z.state = 0) : z.finish = (z, failedOf z.state) := by rw [finish, if_pos h]
theorem finish_ok {z : Zn α} (h : failedOf z.state = 0) : z.finish = ({ z with state := 2, fin := true }, 0) := by rw [finish, if_neg (by simpa using h)]
theorem left_le {z : Zn α} (keep : Int) (h : z.safe ≤ z.L.length) : z.left keep ≤ z.L.length := by unfold left; omega
theorem crash_failed {z : Zn α} (keep : Int) (h : 3 ≤ z.state) : z.crash keep = { z with L := z.L.take (z.left keep), safe := z.left keep, state := z.state } := by simp only [crash, if_pos h]
theorem crash_full {z : Zn α} (keep : Int) (h : ¬ 3 ≤ z.state) (h2 : z.fin = true ∨ ((z.left keep : Nat) : Int) = z.size) : z.crash keep = { z with L := z.L.take (z.left keep), safe := z.left keep, state := 2 } := by simp only [crash, if_neg h, if_pos h2]
theorem crash_empty {z : Zn α} (keep : Int) (h : ¬ 3 ≤ z.state) (h2 : ¬ (z.fin = true ∨ ((z.left keep : Nat) : Int) = z.size)) (h3 : z.left keep = 0) : z.crash keep = { z with L := z.L.take (z.left keep), safe := z.left keep, state := 0 } := by simp only [crash, if_neg h, if_neg h2, if_pos h3]
theorem crash_open {z : Zn α} (keep : Int) (h : ¬ 3 ≤ z.state) (h2 : ¬ (z.fin = true ∨ ((z.left keep : Nat) : Int) = z.size)) (h3 : ¬ z.left keep = 0) : z.crash keep = { z with L := z.L.take (z.left keep), safe := z.left keep, state := 1 } := by simp only [crash, if_neg h, if_neg h2, if_neg h3]
theorem fail_yes {z : Zn α} (s : Int) (h : s = 4 ∨ (s = 3 ∧ z.state ≠ 4)) : z.fail s = { z with state := s } := by rw [fail, if_pos h]
theorem fail_no {z : Zn α} (s : Int) (h : ¬ (s = 4 ∨ (s = 3 ∧ z.state ≠ 4))) : z.fail s = z := by rw [fail, if_neg h]
/-- A sector is turned. -/
def change (z : Zn α) (f : α → α) (off : Int) : Zn α × Int :=
  if off < 0 ∨ z.L.length ≤ off then (z, 31) else ({ z with L := z.L.modify off.toNat f }, 0)
theorem change_out {z : Zn α} (f : α → α) (off : Int) (h2 : off < 0 ∨ (z.L.length : Int) ≤ off) : z.change f off = (z, 31) := by rw [change, if_pos h2]
theorem change_in {z : Zn α} (f : α → α) (k : Nat) (h2 : k < z.L.length) : z.change f (k : Int) = ({ z with L := z.L.set k (f z.L[k]) }, 0) := by
  rw [change, if_neg (by omega)]
  simp only [Int.toNat_natCast, Prod.mk.injEq, and_true, mk.injEq]
  apply List.ext_getElem?
  intro i
  rw [List.getElem?_modify, List.getElem?_set]
  by_cases h : k = i
  · subst h; simp [h2]
  · simp [h]
/-- What holds of every zone that a play makes. -/
structure Ok (z : Zn α) : Prop where
  size_lo : 1 ≤ z.size
  size_hi : z.size ≤ 64
  len : (z.L.length : Int) ≤ z.size
  room : z.state < 2 → (z.L.length : Int) < z.size
  safe : z.safe ≤ z.L.length
  state_lo : 0 ≤ z.state
  state_hi : z.state ≤ 4
end Zn

/-- Block b is a zone of the type T, whose sectors are of the type E, one cell each; F: its blocks. -/
def ZoneAt {α : Type} (T E : TypeId) (enc : α → Value) (w : World) (b : Nat) (z : Zn α) (F : Nat → Prop) : Prop :=
  ∃ (A : Option Addr) (c : Nat), Blk w b T #[.slice A z.L.length c, .int .i64 z.size, .int .i64 (z.safe : Int), .int .i64 z.state, .bool z.fin] ∧ F b ∧
    w.ownsRow 0 E 1 (.slice A z.L.length c) z.L.length (z.L.map enc) ∧ (∀ g, (Value.slice A z.L.length c).ownBlock = some g → F g ∧ g ≠ b) ∧ (∀ k, F k → k < w.heap.size)

/-- A call has turned the zone at b into z', and what it turned besides it laid itself. -/
def Did {α : Type} (T E : TypeId) (enc : α → Value) (w w' : World) (b : Nat) (z' : Zn α) (F : Nat → Prop) : Prop :=
  ∃ F' : Nat → Prop, ZoneAt T E enc w' b z' F' ∧ Mods F w w' ∧ ∀ k, F' k → F k ∨ w.heap.size ≤ k

section
variable {α : Type} {T E : TypeId} {enc : α → Value} {w w' : World} {b : Nat} {z : Zn α} {F S : Nat → Prop}
theorem ZoneAt.lt (h : ZoneAt T E enc w b z F) : b < w.heap.size := by
  obtain ⟨A, c, hb, _⟩ := h
  exact hb.lt
theorem ZoneAt.mods (h : ZoneAt T E enc w b z F) (hm : Mods S w w') (hd : ∀ k, F k → ¬ S k) : ZoneAt T E enc w' b z F := by
  obtain ⟨A, c, hb, hF, hown, hg, hlt⟩ := h
  exact ⟨A, c, hb.mods hm (hd b hF), hF, own_mods hown hm (fun g e => hd g (hg g e).1), hg, fun k hk => Nat.lt_of_lt_of_le (hlt k hk) hm.size⟩
theorem own_setCell {base : Nat} {e : TypeId} {size n : Nat} {v : Value} {xs : List Value} (h : w.ownsRow base e size v n xs) {p : Addr} (hne : v.ownBlock ≠ some p.block) (u : Value) : (w.setCell p u).ownsRow base e size v n xs :=
  own_mods h ((Mods.refl (fun k => k = p.block) w).setCell (.inl rfl) u) (fun g hg e => hne (by rw [hg, e]))
theorem own_drewN {base : Nat} {e : TypeId} {size n : Nat} {v : Value} {xs : List Value} (h : w.ownsRow base e size v n xs) (k : Nat) : (w.drewN k).ownsRow base e size v n xs := h
/-- What an append onto a zone's row turns. -/
theorem Did.close_append {A : Option Addr} {n c : Nat} {o : Obj} {w1 : World} (hg : ∀ g, (Value.slice A n c).ownBlock = some g → F g ∧ g ≠ b) (hgrow : (w.alloc o).grownBy w1 (Value.slice A n c).ownBlock) (_hF : F b) (W : World)
    (hW : Mods F w w1 → Mods F w W) : Mods F w W :=
  hW (((Mods.refl F w).alloc o).grown hgrow (fun k hk => .inl (hg k hk).1))
/-- The blocks behind a call: those of before, and all that it laid. -/
theorem Did.mk' {z' : Zn α} {A : Option Addr} {c : Nat} (hB : Blk w' b T #[.slice A z'.L.length c, .int .i64 z'.size, .int .i64 (z'.safe : Int), .int .i64 z'.state, .bool z'.fin]) (hM : Mods F w w') (hF : F b)
    (hown : w'.ownsRow 0 E 1 (.slice A z'.L.length c) z'.L.length (z'.L.map enc)) (hat : ∀ g, (Value.slice A z'.L.length c).ownBlock = some g → (F g ∧ g ≠ b) ∨ w.heap.size ≤ g) (hlt : ∀ k, F k → k < w.heap.size) : Did T E enc w w' b z' F := by
  refine ⟨fun k => F k ∨ (w.heap.size ≤ k ∧ k < w'.heap.size), ⟨A, c, hB, .inl hF, hown, fun g hg => ?_, fun k hk => ?_⟩, hM, fun k hk => hk.imp id (·.1)⟩
  · rcases hat g hg with ⟨h1, h2⟩ | h
    · exact ⟨.inl h1, h2⟩
    · exact ⟨.inr ⟨h, own_lt hown g hg⟩, fun e => by have := hlt b hF; omega⟩
  · rcases hk with hk | ⟨_, hk⟩
    · exact Nat.lt_of_lt_of_le (hlt k hk) hM.size
    · exact hk
/-- A step on a zone whose blocks all lie beyond B. -/
theorem Did.below {B : Nat} {w0 : World} (h : Did T E enc w w' b z F) (hb : Below B w0 w) (hB : B ≤ w.heap.size) (hF : ∀ k, F k → B ≤ k) :
    ∃ F' : Nat → Prop, ZoneAt T E enc w' b z F' ∧ Below B w0 w' ∧ B ≤ w'.heap.size ∧ ∀ k, F' k → B ≤ k := by
  obtain ⟨F', hz, hm, hf⟩ := h
  refine ⟨F', hz, hb.trans (hm.below hB hF), Nat.le_trans hB hm.size, fun k hk => ?_⟩
  rcases hf k hk with h | h
  · exact hF k h
  · omega
theorem ZoneAt.drew (h : ZoneAt T E enc w b z F) : ZoneAt T E enc w.drew b z F := h
theorem ZoneAt.alloc (h : ZoneAt T E enc w b z F) (o : Obj) : ZoneAt T E enc (w.alloc o) b z F :=
  h.mods ((Mods.refl (fun _ => False) w).alloc o) (fun _ _ h => h)
theorem ZoneAt.cells (h : ZoneAt T E enc w b z F) : ∃ A c, w.cell? ⟨b, 0, none⟩ = some (.slice A z.L.length c) ∧ w.cell? ⟨b, 2, none⟩ = some (.int .i64 (z.safe : Int)) ∧ w.cell? ⟨b, 3, none⟩ = some (.int .i64 z.state) := by
  obtain ⟨A, c, hb, _⟩ := h
  exact ⟨A, c, hb.cell 0, hb.cell 2, hb.cell 3⟩
theorem Did.same (h : ZoneAt T E enc w b z F) : Did T E enc w w b z F := ⟨F, h, Mods.refl _ _, fun _ hk => .inl hk⟩
end

/-- A zone of the document, as a value: its sectors lie in a row of their own, in a block of G. -/
def RefAt {α : Type} (E : TypeId) (enc : α → Value) (w : World) (A : Option Addr) (c : Nat) (z : Zn α) (G : Nat → Prop) : Prop :=
  w.ownsRow 0 E 1 (.slice A z.L.length c) z.L.length (z.L.map enc) ∧ ∀ g, (Value.slice A z.L.length c).ownBlock = some g → G g

section
variable {α : Type} {E : TypeId} {enc : α → Value} {w w' : World} {A : Option Addr} {c : Nat} {z : Zn α} {F G G' S : Nat → Prop}
theorem RefAt.mods (h : RefAt E enc w A c z G) (hm : Mods S w w') (hd : ∀ k, G k → k < w.heap.size → ¬ S k) : RefAt E enc w' A c z G :=
  ⟨own_mods h.1 hm (fun g hg => hd g (h.2 g hg) (own_lt h.1 g hg)), h.2⟩
theorem RefAt.below (h : RefAt E enc w A c z G) (hb : Below w.heap.size w w') : RefAt E enc w' A c z G :=
  h.mods (Mods.of_below hb (fun _ => False)) (fun _ _ _ h => h)
theorem RefAt.mono (h : RefAt E enc w A c z G) (hG : ∀ k, G k → k < w.heap.size → G' k) : RefAt E enc w A c z G' :=
  ⟨h.1, fun g hg => hG g (h.2 g hg) (own_lt h.1 g hg)⟩
end

end Go.Proofs.Ytdinbhanekpjoaa
