/-
  A device and the document's side by side in memory, what a step of both hands back, and when two sectors are the same.
-/
import Derived.Test.YtdinbhanekpjoaaPlay7
import Derived.Stop.BytesEq
namespace Go.Proofs.Ytdinbhanekpjoaa
open Go.RowKit

/-- The device at block d, and the document's; both are the plain D, and they share no block. -/
structure Two (w : World) (d : Nat) (D : Dv) (F : Nat → Prop) (A : Option Addr) (c : Nat) (bs : List Nat) (Fs : Nat → Nat → Prop) (A' : Option Addr) (c' : Nat) (es : List RZ) (G : Nat → Prop) : Prop where
  dev : DevIs w d D F A c bs Fs
  ref : RefIs w D A' c' es G
  apart : ∀ k, F k → ¬ G k
  old : ∀ k, G k → k < w.heap.size

def aggD (A : Option Addr) (c : Nat) (D : Dv) : Value := .agg #[.slice A D.zs.length c, .int .i64 D.size, .int .i64 D.op, .int .i64 (D.n : Int), .bool D.down]
/-- What a step hands back. -/
def Stepped (w : World) (F G : Nat → Prop) (d : Nat) (A : Option Addr) (c : Nat) (bs : List Nat) (D' : Dv) (e : Ending) (w' : World) : Prop :=
  ∃ A' c' es, e = .returned (.tuple #[aggD A' c' D', .bool true]) ∧ ∃ F' Fs' G', Two w' d D' F' A c bs Fs' A' c' es G' ∧ Mods F w w' ∧ (∀ k, F' k → F k ∨ w.heap.size ≤ k) ∧ (∀ k, G' k → G k ∨ w.heap.size ≤ k)

section
variable {w W0 w1 w2 w3 w4 : World} {d c c' c2 : Nat} {D D' : Dv} {F G : Nat → Prop} {A A' A2 : Option Addr} {bs : List Nat} {Fs : Nat → Nat → Prop} {es es2 : List RZ}
theorem Two.lt (h : Two w d D F A c bs Fs A' c' es G) : ∀ k, F k → k < w.heap.size := h.dev.lt
theorem Two.below (h : Two w d D F A c bs Fs A' c' es G) (hb : Below w.heap.size w W0) : Two W0 d D F A c bs Fs A' c' es G :=
  ⟨h.dev.below hb, h.ref.below hb, h.apart, fun k hk => Nat.lt_of_lt_of_le (h.old k hk) hb.size⟩
/-- The document's, when the device has taken a step. -/
theorem Two.refThen (h : Two w d D F A c bs Fs A' c' es G) (hd : DDid w w1 d D' F A c bs) : RefIs w1 D A' c' es G := by
  obtain ⟨_, _, _, hm, _⟩ := hd
  exact h.ref.mods hm (fun k hk _ hf => h.apart k hf hk)
/-- A block stands behind a device's step. -/
theorem DDid.box {g : Nat} {T : TypeId} {cs : Array Value} (hb : Blk W0 g T cs) (hd : DDid W0 w1 d D' F A c bs) (hg : ¬ F g) : Blk w1 g T cs := by
  obtain ⟨_, _, _, hm, _⟩ := hd
  exact hb.mods hm hg
/-- The device has taken its step, then the document's; then cells of new blocks were written. -/
theorem Stepped.devRef (h : Two w d D F A c bs Fs A' c' es G) (hb : Below w.heap.size w W0) (hd : DDid W0 w1 d D' F A c bs) (hr : RefIs w2 D' A2 c2 es2 (fun k => G k ∨ w1.heap.size ≤ k)) (hb2 : Below w1.heap.size w1 w2)
    (hm3 : Mods (fun k => w.heap.size ≤ k ∧ k < W0.heap.size) w2 w3) : Stepped w F G d A c bs D' (.returned (.tuple #[aggD A2 c2 D', .bool true])) w3 := by
  obtain ⟨F1, Fs1, h1, hm1, hF1⟩ := hd
  have hs0 := hb.size
  have hs1 := hm1.size
  have hs2 := hb2.size
  have hs3 := hm3.size
  have hl1 := h1.lt
  have hlt := h.lt
  have hN : ∀ k, F1 k → ¬ (w.heap.size ≤ k ∧ k < W0.heap.size) := fun k hk e => by
    rcases hF1 k hk with h2 | h2
    · have := hlt k h2; omega
    · omega
  refine ⟨A2, c2, es2, rfl, F1, Fs1, fun k => (G k ∨ w1.heap.size ≤ k) ∧ k < w2.heap.size, ⟨(h1.below hb2).mods hm3 hN, ?_, ?_, ?_⟩, ?_, ?_, ?_⟩
  · exact hr.tight.mods hm3 (fun k hk _ e => by
      rcases hk.1 with h2 | h2
      · have := h.old k h2; omega
      · omega)
  · rintro k hk ⟨h2 | h2, _⟩
    · rcases hF1 k hk with h3 | h3
      · exact h.apart k h3 h2
      · have := h.old k h2; omega
    · have := hl1 k hk; omega
  · rintro k ⟨_, hk⟩; omega
  · exact (((Mods.of_below hb F).trans hm1 (fun _ _ h => h)).trans (Mods.of_below hb2 F) (fun _ _ h => h)).trans hm3 (fun k hk e => by omega)
  · intro k hk
    rcases hF1 k hk with h2 | h2
    · exact .inl h2
    · right; omega
  · rintro k ⟨h2 | h2, _⟩
    · exact .inl h2
    · right; omega
/-- The document's has taken its step, then the device; then cells of the block g were written. -/
theorem Stepped.refDev {g : Nat} (h : Two w d D F A c bs Fs A' c' es G) (hb : Below w.heap.size w W0) (hr : RefIs w1 D' A2 c2 es2 (fun k => G k ∨ W0.heap.size ≤ k)) (hb1 : Below W0.heap.size W0 w1) (hb2 : Below w1.heap.size w1 w2)
    (hd : DDid w2 w3 d D' F A c bs) (hg1 : w.heap.size ≤ g) (hg2 : g < W0.heap.size) (hm4 : Mods (fun k => k = g) w3 w4) : Stepped w F G d A c bs D' (.returned (.tuple #[aggD A2 c2 D', .bool true])) w4 := by
  obtain ⟨F1, Fs1, h1, hm3, hF1⟩ := hd
  have hs0 := hb.size
  have hs1 := hb1.size
  have hs2 := hb2.size
  have hs3 := hm3.size
  have hs4 := hm4.size
  have hl1 := h1.lt
  have hlt := h.lt
  have hN : ∀ k, F1 k → ¬ k = g := fun k hk e => by
    rcases hF1 k hk with h2 | h2
    · have := hlt k h2; omega
    · omega
  have hr3 : RefIs w3 D' A2 c2 es2 (fun k => (G k ∨ W0.heap.size ≤ k) ∧ k < w1.heap.size) := (hr.tight.below hb2).mods hm3 (fun k hk _ hf => by
    rcases hk.1 with h2 | h2
    · exact h.apart k hf h2
    · have := hlt k hf; omega)
  refine ⟨A2, c2, es2, rfl, F1, Fs1, fun k => (G k ∨ W0.heap.size ≤ k) ∧ k < w1.heap.size, ⟨h1.mods hm4 hN, ?_, ?_, ?_⟩, ?_, ?_, ?_⟩
  · exact hr3.mods hm4 (fun k hk _ e => by
      rcases hk.1 with h2 | h2
      · have := h.old k h2; omega
      · omega)
  · rintro k hk ⟨h2 | h2, h4⟩
    · rcases hF1 k hk with h3 | h3
      · exact h.apart k h3 h2
      · have := h.old k h2; omega
    · rcases hF1 k hk with h3 | h3
      · have := hlt k h3; omega
      · omega
  · rintro k ⟨_, hk⟩; omega
  · exact ((((Mods.of_below hb F).trans (Mods.of_below hb1 F) (fun _ _ h => h)).trans (Mods.of_below hb2 F) (fun _ _ h => h)).trans hm3 (fun _ _ h => h)).trans hm4 (fun k hk e => by omega)
  · intro k hk
    rcases hF1 k hk with h2 | h2
    · exact .inl h2
    · right; omega
  · rintro k ⟨h2 | h2, _⟩
    · exact .inl h2
    · right; omega
/-- A step that turns neither. -/
theorem Stepped.none_ (h : Two w d D F A c bs Fs A' c' es G) (hb : Below w.heap.size w w1) : Stepped w F G d A c bs D (.returned (.tuple #[aggD A' c' D, .bool true])) w1 :=
  ⟨A', c', es, rfl, F, Fs, G, h.below hb, Mods.of_below hb F, fun _ hk => .inl hk, fun _ hk => .inl hk⟩
end

/-! ### An operation's box -/
section
variable {W : World} {b : Nat} {T : TypeId} {o : OpV}
theorem OpV.at_ (h : Blk W b T o.cells.toArray) : W.cell? ⟨b, 0, none⟩ = some (.int .i64 o.kind) ∧ W.cell? ⟨b, 1, none⟩ = some (.int .i64 o.zone) ∧ W.cell? ⟨b, 2, none⟩ = some (.int .i64 o.off) ∧ W.cell? ⟨b, 67, none⟩ = some (.slice o.K o.keep.length o.kc) ∧ W.rangeAt b 3 o.s.cs := by
  have g : ∀ i v, o.cells[i]? = some v → W.cell? ⟨b, i, none⟩ = some v := fun i v hv => by rw [h.cell i, List.getElem?_toArray, hv]
  have hl := o.s.len
  refine ⟨g 0 _ rfl, g 1 _ rfl, g 2 _ rfl, g 67 _ ?_, fun j v hv => g (3 + j) v ?_⟩
  · unfold OpV.cells
    rw [List.getElem?_append_right (by simp [hl])]
    simp [hl]
  · have hj : j < 64 := by rw [← hl]; exact (List.getElem?_eq_some_iff.1 hv).1
    unfold OpV.cells
    rw [List.append_assoc, List.getElem?_append_right (by simp), List.getElem?_append_left (by simp [hl]; omega)]
    simpa using hv
end

/-! ### Sectors are compared -/
section
variable {P : Program} (w : World)
theorem run_equalIn_sec (k : Nat) (t e : TypeId) (ht : P.underlying t = some (.array 64 e)) (he : P.underlying e = some (.int .u8)) (hsz : ∀ w, (sizeOf e).run P w = .ok 1 w) (s : Sec) :
    (Op.equalIn (k + 2) t (.agg s.cs.toArray) (.agg s.cs.toArray)).run P w = .ok true w := by
  rw [Op.equalIn]
  simp only [Sem.run_bind, run_underlying ht, Result.andThen_ok, hsz, Std.Legacy.Range.forIn_eq_forIn_range', Std.Legacy.Range.size, Nat.sub_zero, Nat.add_sub_cancel, Nat.div_one]
  have hl : ∀ i ∈ List.range' 0 64 1, i < 64 := fun i hi => by simpa using (List.mem_range'_1.1 hi).2
  generalize List.range' 0 64 1 = l at hl ⊢
  induction l with
  | nil => simp
  | cons i l ih =>
    have hi : i < 64 := hl i (by simp)
    obtain ⟨b, hb⟩ := ZD.byte_at s i hi
    have px : (part e s.cs.toArray (i * 1)).run P w = .ok (.int .u8 b) w := by
      have hi2 : i < s.cs.length := by rw [s.len]; exact hi
      have hb' : s.cs[i] = .int .u8 b := by rw [List.getElem?_eq_getElem hi2] at hb; exact Option.some.inj hb
      simp [part, isAgg, run_underlying he, hb', hi2]
    have pe : (Op.equalIn (k + 1) e (.int .u8 b) (.int .u8 b)).run P w = .ok true w := by
      rw [run_equalIn_int w k e .u8 .u8 _ _ he]
      simp
    simp only [List.forIn_cons, Sem.run_bind, px, pe, Result.andThen_ok, Bool.not_true, Bool.false_eq_true, if_false, Sem.run_pure]
    exact ih fun j hj => hl j (by simp [hj])
theorem run_eql_sec (t e : TypeId) (ht : P.underlying t = some (.array 64 e)) (he : P.underlying e = some (.int .u8)) (hsz : ∀ w, (sizeOf e).run P w = .ok 1 w) (s : Sec) :
    (binOp .eql t (.agg s.cs.toArray) (.agg s.cs.toArray)).run P w = .ok (.bool true) w := by
  rw [run_eql_struct, run_equalIn_sec w 9998 t e ht he hsz s]
  rfl
theorem run_neq_sec (t e : TypeId) (ht : P.underlying t = some (.array 64 e)) (he : P.underlying e = some (.int .u8)) (hsz : ∀ w, (sizeOf e).run P w = .ok 1 w) (s : Sec) :
    (binOp .neq t (.agg s.cs.toArray) (.agg s.cs.toArray)).run P w = .ok (.bool false) w := by
  rw [run_neq_struct, run_equalIn_sec w 9998 t e ht he hsz s]
  rfl
end
theorem size8 (w : World) : (sizeOf 5).run Try.prog w = .ok 1 w := by kernel_rfl
theorem eqA (s : Sec) (w : World) : (Op.equalIn 10000 33 (.agg s.cs.toArray) (.agg s.cs.toArray)).run Try.prog w = .ok true w := run_equalIn_sec w 9998 _ _ Try.underlying33 Try.underlying5 size8 s
theorem eqS (s : Sec) (w : World) : (Op.equalIn 10000 34 (.agg s.cs.toArray) (.agg s.cs.toArray)).run Try.prog w = .ok true w := run_equalIn_sec w 9998 _ _ Try.underlying34 Try.underlying5 size8 s

/-! ### A step in a region of which the world stands still -/
section
variable {P : Program} {ops : Array Oper} {w : World}
theorem wpStill_value {Q : Act → Prop} {a : Act} {o : Oper} {rest : List Oper} (hg : o.guard = none) {v : Value} (hv : (execOp a.eval o).run P w = .ok (.value v) w) (h : wpStill P ops w Q rest (a.put o.dst v)) : wpStill P ops w Q (o :: rest) a := by
  refine wpStill_step (fun K hK => ?_)
  rw [if_pos (by simp [Region.wanted, hg])]
  unfold Oper.still
  rw [hv, Oper.stillUpon_value]
  exact hK _ h
theorem wpStill_load {Q : Act → Prop} {a : Act} {o : Oper} {rest : List Oper} (hg : o.guard = none) (ty : TypeId) (x : Operand) (ho : o.op = .load ty x) (b off : Nat) (hx : a.eval x = .pointer (some ⟨b, off, none⟩)) (cs : List Value) (d : TypeDesc)
    (hr : w.rangeAt b off cs) (hu : P.underlying ty = some d) (hd : d.isRow = true) (hi : (P.info? ty).map (·.size) = some cs.length) (h : ∀ K : Act → Prop, (∀ a, wpStill P ops w Q rest a → K a) → K (a.put o.dst (.agg cs.toArray))) : wpStill P ops w Q (o :: rest) a :=
  wpStill_value hg (v := .agg cs.toArray) (by simp only [execOp, ho, hx, Sem.run_bind, run_loadAt_mid w b off ty cs d hr hu hd hi, Result.andThen_ok, Sem.run_pure]) (h _ (fun _ h => h))
end
end Go.Proofs.Ytdinbhanekpjoaa
