/-
  Sectors of 64 cells, and zones of them in memory. Nothing here speaks of the program.
-/
import Derived.Test.YtdinbhanekpjoaaZStep
import Derived.Deep.MidRow
namespace Go.Proofs.Ytdinbhanekpjoaa
open Go.RowKit

/-- A sector: its 64 bytes, as cells. -/
structure Sec where
  cs : List Value
  len : cs.length = 64
  byte : ∀ v ∈ cs, ∃ b : Int, v = .int .u8 b

theorem Sec.ext {s t : Sec} (h : s.cs = t.cs) : s = t := by
  cases s; cases t; cases h; rfl
theorem Sec.one (s : Sec) : ∀ v ∈ s.cs, v.oneCell' = true := fun v hv => by
  obtain ⟨b, rfl⟩ := s.byte v hv
  rfl
/-- A sector as a value. -/
def Sec.agg (s : Sec) : Value := .agg s.cs.toArray
def Sec.zero : Sec := ⟨List.replicate 64 (.int .u8 0), by simp, fun v hv => ⟨0, (List.mem_replicate.1 hv).2⟩⟩
def xorV : Value → Value → Value
  | .int .u8 a, .int .u8 b => .int .u8 (bits .xor .u8 a b)
  | a, _ => a
def Sec.xor (s p : Sec) : Sec :=
  ⟨List.zipWith xorV s.cs p.cs, by simp [s.len, p.len], fun v hv => by
    obtain ⟨i, hi, rfl⟩ := List.getElem_of_mem hv
    simp only [List.getElem_zipWith]
    obtain ⟨a, ha⟩ := s.byte _ (List.getElem_mem (l := s.cs) (n := i) (by simp at hi; omega))
    obtain ⟨b, hb⟩ := p.byte _ (List.getElem_mem (l := p.cs) (n := i) (by simp at hi; omega))
    rw [ha, hb]
    exact ⟨_, rfl⟩⟩

/-- The cells of sectors, one behind the other. -/
theorem flat_length (l : List Sec) : (l.flatMap Sec.cs).length = l.length * 64 := by
  induction l with
  | nil => rfl
  | cons s l ih => rw [List.flatMap_cons, List.length_append, ih, s.len, List.length_cons]; omega
theorem flat_one (l : List Sec) : ∀ v ∈ l.flatMap Sec.cs, v.oneCell' = true := fun v hv => by
  obtain ⟨s, _, hs⟩ := List.mem_flatMap.1 hv
  exact s.one v hs
theorem flat_get (l : List Sec) (k : Nat) (hk : k < l.length) (j : Nat) (hj : j < 64) : (l.flatMap Sec.cs)[k * 64 + j]? = (l[k]).cs[j]? := by
  induction l generalizing k with
  | nil => simp at hk
  | cons s l ih =>
    rw [List.flatMap_cons]
    cases k with
    | zero => rw [Nat.zero_mul, Nat.zero_add, List.getElem?_append_left (by rw [s.len]; exact hj)]; rfl
    | succ k =>
      rw [List.getElem?_append_right (by rw [s.len]; omega), s.len, show (k + 1) * 64 + j - 64 = k * 64 + j by omega]
      exact ih k (by simpa using hk)
theorem flat_take (l : List Sec) (m : Nat) : (l.take m).flatMap Sec.cs = (l.flatMap Sec.cs).take (m * 64) := by
  induction l generalizing m with
  | nil => simp
  | cons s l ih =>
    cases m with
    | zero => simp
    | succ m =>
      rw [List.take_succ_cons, List.flatMap_cons, List.flatMap_cons, ih, List.take_append, s.len, show (m + 1) * 64 - 64 = m * 64 by omega, List.take_of_length_le (l := s.cs) (by rw [s.len]; omega)]
theorem flat_snoc (l : List Sec) (s : Sec) : (l ++ [s]).flatMap Sec.cs = l.flatMap Sec.cs ++ s.cs := by simp

/-- Block b is a zone of the type T, whose sectors are of the type E, 64 cells each; F: its blocks. -/
def SAt (T E : TypeId) (w : World) (b : Nat) (z : Zn Sec) (F : Nat → Prop) : Prop :=
  ∃ (A : Option Addr) (c : Nat), Blk w b T #[.slice A z.L.length c, .int .i64 z.size, .int .i64 (z.safe : Int), .int .i64 z.state, .bool z.fin] ∧ F b ∧
    w.ownsRow 0 E 64 (.slice A z.L.length c) z.L.length (z.L.flatMap Sec.cs) ∧ (∀ g, (Value.slice A z.L.length c).ownBlock = some g → F g ∧ g ≠ b) ∧ (∀ k, F k → k < w.heap.size)

/-- A call has turned the zone at b into z', and what it turned besides it laid itself. -/
def SDid (T E : TypeId) (w w' : World) (b : Nat) (z' : Zn Sec) (F : Nat → Prop) : Prop :=
  ∃ F' : Nat → Prop, SAt T E w' b z' F' ∧ Mods F w w' ∧ ∀ k, F' k → F k ∨ w.heap.size ≤ k

section
variable {T E : TypeId} {w w' : World} {b : Nat} {z : Zn Sec} {F S : Nat → Prop}
theorem SAt.lt (h : SAt T E w b z F) : b < w.heap.size := by
  obtain ⟨A, c, hb, _⟩ := h
  exact hb.lt
theorem SAt.mods (h : SAt T E w b z F) (hm : Mods S w w') (hd : ∀ k, F k → ¬ S k) : SAt T E w' b z F := by
  obtain ⟨A, c, hb, hF, hown, hg, hlt⟩ := h
  exact ⟨A, c, hb.mods hm (hd b hF), hF, own_mods hown hm (fun g e => hd g (hg g e).1), hg, fun k hk => Nat.lt_of_lt_of_le (hlt k hk) hm.size⟩


/-- What an append onto a zone's row turns. -/
theorem SDid.close_append {A : Option Addr} {n c : Nat} {o : Obj} {w1 : World} (hg : ∀ g, (Value.slice A n c).ownBlock = some g → F g ∧ g ≠ b) (hgrow : (w.alloc o).grownBy w1 (Value.slice A n c).ownBlock) (_hF : F b) (W : World)
    (hW : Mods F w w1 → Mods F w W) : Mods F w W :=
  hW (((Mods.refl F w).alloc o).grown hgrow (fun k hk => .inl (hg k hk).1))
/-- The blocks behind a call: those of before, and all that it laid. -/
theorem SDid.mk' {z' : Zn Sec} {A : Option Addr} {c : Nat} (hB : Blk w' b T #[.slice A z'.L.length c, .int .i64 z'.size, .int .i64 (z'.safe : Int), .int .i64 z'.state, .bool z'.fin]) (hM : Mods F w w') (hF : F b)
    (hown : w'.ownsRow 0 E 64 (.slice A z'.L.length c) z'.L.length (z'.L.flatMap Sec.cs)) (hat : ∀ g, (Value.slice A z'.L.length c).ownBlock = some g → (F g ∧ g ≠ b) ∨ w.heap.size ≤ g) (hlt : ∀ k, F k → k < w.heap.size) : SDid T E w w' b z' F := by
  refine ⟨fun k => F k ∨ (w.heap.size ≤ k ∧ k < w'.heap.size), ⟨A, c, hB, .inl hF, hown, fun g hg => ?_, fun k hk => ?_⟩, hM, fun k hk => hk.imp id (·.1)⟩
  · rcases hat g hg with ⟨h1, h2⟩ | h
    · exact ⟨.inl h1, h2⟩
    · exact ⟨.inr ⟨h, own_lt hown g hg⟩, fun e => by have := hlt b hF; omega⟩
  · rcases hk with hk | ⟨_, hk⟩
    · exact Nat.lt_of_lt_of_le (hlt k hk) hM.size
    · exact hk
/-- A step on a zone whose blocks all lie beyond B. -/
theorem SDid.below {B : Nat} {w0 : World} (h : SDid T E w w' b z F) (hb : Below B w0 w) (hB : B ≤ w.heap.size) (hF : ∀ k, F k → B ≤ k) :
    ∃ F' : Nat → Prop, SAt T E w' b z F' ∧ Below B w0 w' ∧ B ≤ w'.heap.size ∧ ∀ k, F' k → B ≤ k := by
  obtain ⟨F', hz, hm, hf⟩ := h
  refine ⟨F', hz, hb.trans (hm.below hB hF), Nat.le_trans hB hm.size, fun k hk => ?_⟩
  rcases hf k hk with h | h
  · exact hF k h
  · omega
theorem SAt.drew (h : SAt T E w b z F) : SAt T E w.drew b z F := h
theorem SAt.alloc (h : SAt T E w b z F) (o : Obj) : SAt T E (w.alloc o) b z F :=
  h.mods ((Mods.refl (fun _ => False) w).alloc o) (fun _ _ h => h)
theorem SAt.cells (h : SAt T E w b z F) : ∃ A c, w.cell? ⟨b, 0, none⟩ = some (.slice A z.L.length c) ∧ w.cell? ⟨b, 2, none⟩ = some (.int .i64 (z.safe : Int)) ∧ w.cell? ⟨b, 3, none⟩ = some (.int .i64 z.state) := by
  obtain ⟨A, c, hb, _⟩ := h
  exact ⟨A, c, hb.cell 0, hb.cell 2, hb.cell 3⟩
theorem SDid.same (h : SAt T E w b z F) : SDid T E w w b z F := ⟨F, h, Mods.refl _ _, fun _ hk => .inl hk⟩
end

/-- A zone of the document, as a value: its sectors lie in a row of their own, in a block of G. -/
def SRef (E : TypeId) (w : World) (A : Option Addr) (c : Nat) (z : Zn Sec) (G : Nat → Prop) : Prop :=
  w.ownsRow 0 E 64 (.slice A z.L.length c) z.L.length (z.L.flatMap Sec.cs) ∧ ∀ g, (Value.slice A z.L.length c).ownBlock = some g → G g

section
variable {E : TypeId} {w w' : World} {A : Option Addr} {c : Nat} {z : Zn Sec} {F G G' S : Nat → Prop}
theorem SRef.mods (h : SRef E w A c z G) (hm : Mods S w w') (hd : ∀ k, G k → k < w.heap.size → ¬ S k) : SRef E w' A c z G :=
  ⟨own_mods h.1 hm (fun g hg => hd g (h.2 g hg) (own_lt h.1 g hg)), h.2⟩
theorem SRef.below (h : SRef E w A c z G) (hb : Below w.heap.size w w') : SRef E w' A c z G :=
  h.mods (Mods.of_below hb (fun _ => False)) (fun _ _ _ h => h)
theorem SRef.mono (h : SRef E w A c z G) (hG : ∀ k, G k → k < w.heap.size → G' k) : SRef E w A c z G' :=
  ⟨h.1, fun g hg => hG g (h.2 g hg) (own_lt h.1 g hg)⟩
end

end Go.Proofs.Ytdinbhanekpjoaa
