/-
  A drive and the document's side by side in memory, between the calls of a step.
-/
import Derived.Test.YtdinbhanekpjoaaQE
import Derived.Test.YtdinbhanekpjoaaQRef8c
import Derived.Test.YtdinbhanekpjoaaQOf8
import Derived.BigFrame
namespace Go.Proofs.Ytdinbhanekpjoaa
open Go.RowKit
/-- Block q is the drive X over the device at d, for some rows; its blocks are in F. -/
def DrvAt (w : World) (q d : Nat) (X : Dr) (F : Nat → Prop) : Prop := ∃ FD A c bs Fs mb n Ac cc Ah ch, DrvIs w q d X F FD A c bs Fs mb n Ac cc Ah ch
/-- The drive at q, and the document's; both are the plain X, and they share no block. -/
structure Two8 (w : World) (q d : Nat) (X : Dr) (F G : Nat → Prop) (A' : Option Addr) (c' : Nat) (es' : List RZ) (Ac' : Option Addr) (cc' : Nat) (Ah' : Option Addr) (ch' : Nat) : Prop where
  drv : DrvAt w q d X F
  ref : Ref8 w X A' c' es' Ac' cc' Ah' ch' G
  apart : ∀ k, F k → ¬ G k
  old : ∀ k, G k → k < w.heap.size
theorem Two8.lt {w : World} {q d : Nat} {X : Dr} {F G : Nat → Prop} {A' : Option Addr} {c' : Nat} {es' : List RZ} {Ac' : Option Addr} {cc' : Nat} {Ah' : Option Addr} {ch' : Nat} (h : Two8 w q d X F G A' c' es' Ac' cc' Ah' ch') : ∀ k, F k → k < w.heap.size := by
  obtain ⟨_, _, _, _, _, _, _, _, _, _, _, h1⟩ := h.drv
  exact h1.lt
/-- What a step hands back. -/
def Stepped8 (w : World) (F G : Nat → Prop) (q d : Nat) (X' : Dr) (e : Ending) (w' : World) : Prop :=
  ∃ A' c' es' Ac' cc' Ah' ch', e = .returned (.tuple #[agg8 X' A' c' Ac' cc' Ah' ch', .bool true]) ∧ ∃ F' G', Two8 w' q d X' F' G' A' c' es' Ac' cc' Ah' ch' ∧ Mods F w w' ∧ (∀ k, F' k → F k ∨ w.heap.size ≤ k) ∧ (∀ k, G' k → G k ∨ w.heap.size ≤ k)
/-- The document's drive knows nothing of the marks. -/
structure Alike (X Y : Dr) : Prop where
  D : X.D = Y.D
  coming : X.coming = Y.coming
  happened : X.happened = Y.happened
theorem Alike.refl (X : Dr) : Alike X X := ⟨rfl, rfl, rfl⟩

/-- Inside a step that began in w: the drive is X, the document's Y; three boxes stand behind. -/
structure At8 (w Wn : World) (F G : Nat → Prop) (q d : Nat) (X Y : Dr) (A' : Option Addr) (c' : Nat) (es' : List RZ) (Ac' : Option Addr) (cc' : Nat) (Ah' : Option Addr) (ch' : Nat) (p : OpP) (cs0 cs2 : Array Value) : Prop where
  both : ∃ F1 G1, DrvAt Wn q d X F1 ∧ Ref8 Wn Y A' c' es' Ac' cc' Ah' ch' G1 ∧ (∀ k, F1 k → F k ∨ w.heap.size + 3 ≤ k) ∧ (∀ k, G1 k → (G k ∨ w.heap.size + 3 ≤ k) ∧ k < Wn.heap.size) ∧ (∀ k, F1 k → ¬ G1 k)
  ltF : ∀ k, F k → k < w.heap.size
  ltG : ∀ k, G k → k < w.heap.size
  mods : Mods F w Wn
  b0 : Blk Wn w.heap.size 62 cs0
  b1 : Blk Wn (w.heap.size + 1) 68 p.cells.toArray
  b2 : Blk Wn (w.heap.size + 1 + 1) 62 cs2
  size : w.heap.size + 3 ≤ Wn.heap.size
section
variable {w Wn W2 : World} {F G S : Nat → Prop} {q d : Nat} {X Y X2 Y2 : Dr} {A' : Option Addr} {c' : Nat} {es' : List RZ} {Ac' : Option Addr} {cc' : Nat} {Ah' : Option Addr} {ch' : Nat} {A2 : Option Addr} {c2 : Nat} {es2 : List RZ} {Ac2 : Option Addr} {cc2 : Nat} {Ah2 : Option Addr} {ch2 : Nat} {p : OpP} {cs0 cs2 cs0' cs2' : Array Value}
theorem DrvAt.mods (h : DrvAt Wn q d X F) (hm : Mods S Wn W2) (hd : ∀ k, F k → ¬ S k) : DrvAt W2 q d X F := by
  obtain ⟨a1, a2, a3, a4, a5, a6, a7, a8, a9, a10, a11, h1⟩ := h
  exact ⟨a1, a2, a3, a4, a5, a6, a7, a8, a9, a10, a11, h1.mods hm hd⟩
theorem DrvAt.lt (h : DrvAt Wn q d X F) : ∀ k, F k → k < Wn.heap.size := by
  obtain ⟨_, _, _, _, _, _, _, _, _, _, _, h1⟩ := h
  exact h1.lt
/-- Boxes were written. -/
theorem At8.box (h : At8 w Wn F G q d X Y A' c' es' Ac' cc' Ah' ch' p cs0 cs2) (hm : Mods (fun k => w.heap.size ≤ k ∧ k < w.heap.size + 3) Wn W2) (h0 : Blk W2 w.heap.size 62 cs0') (h1 : Blk W2 (w.heap.size + 1) 68 p.cells.toArray) (h2 : Blk W2 (w.heap.size + 1 + 1) 62 cs2') :
    At8 w W2 F G q d X Y A' c' es' Ac' cc' Ah' ch' p cs0' cs2' := by
  obtain ⟨F1, G1, hd, hr, hF, hG, hap⟩ := h.both
  have hs := hm.size
  refine ⟨⟨F1, G1, hd.mods hm (fun k hk e => ?_), hr.mods hm (fun k hk _ e => ?_), hF, fun k hk => ⟨(hG k hk).1, by have := (hG k hk).2; omega⟩, hap⟩, h.ltF, h.ltG, h.mods.trans hm (fun k hk e => by omega), h0, h1, h2, by have := h.size; omega⟩
  · rcases hF k hk with h3 | h3
    · have := h.ltF k h3; omega
    · omega
  · rcases (hG k hk).1 with h3 | h3
    · have := h.ltG k h3; omega
    · omega
theorem At8.mods0 (h : At8 w Wn F G q d X Y A' c' es' Ac' cc' Ah' ch' p cs0 cs2) (hm : Mods (fun _ => False) Wn W2) : At8 w W2 F G q d X Y A' c' es' Ac' cc' Ah' ch' p cs0 cs2 :=
  h.box (hm.mono (fun _ _ h => h.elim)) (h.b0.mods hm (fun h => h)) (h.b1.mods hm (fun h => h)) (h.b2.mods hm (fun h => h))
theorem At8.below (h : At8 w Wn F G q d X Y A' c' es' Ac' cc' Ah' ch' p cs0 cs2) (hb : Below Wn.heap.size Wn W2) : At8 w W2 F G q d X Y A' c' es' Ac' cc' Ah' ch' p cs0 cs2 := h.mods0 (Mods.of_below hb (fun _ => False))
theorem At8.drew (h : At8 w Wn F G q d X Y A' c' es' Ac' cc' Ah' ch' p cs0 cs2) : At8 w Wn.drew F G q d X Y A' c' es' Ac' cc' Ah' ch' p cs0 cs2 := h.mods0 (Mods.refl _ Wn).drew
theorem At8.cast (h : At8 w Wn F G q d X Y A' c' es' Ac' cc' Ah' ch' p cs0 cs2) (hW : Wn = W2) : At8 w W2 F G q d X Y A' c' es' Ac' cc' Ah' ch' p cs0 cs2 := hW ▸ h
/-- The document's cells are written into its box. -/
theorem At8.put0 {u0 u1 u2 u3 u4 u5 u6 : Value} (h : At8 w Wn F G q d X Y A' c' es' Ac' cc' Ah' ch' p #[u0, u1, u2, u3, u4, u5, u6] cs2) (v0 v1 v2 v3 v4 v5 v6 : Value) :
    At8 w (put7 Wn w.heap.size v0 v1 v2 v3 v4 v5 v6) F G q d X Y A' c' es' Ac' cc' Ah' ch' p #[v0, v1, v2, v3, v4, v5, v6] cs2 :=
  h.box (Mods.put7 _ _ _ _ _ _ _ _ _ _ ⟨Nat.le_refl _, by omega⟩) (h.b0.put7 v0 v1 v2 v3 v4 v5 v6) (h.b1.mods (Mods.put7 (fun k => k = w.heap.size) Wn w.heap.size v0 v1 v2 v3 v4 v5 v6 rfl) (by omega)) (h.b2.mods (Mods.put7 (fun k => k = w.heap.size) Wn w.heap.size v0 v1 v2 v3 v4 v5 v6 rfl) (by omega))
/-- The device's five. -/
theorem At8.put05 {u0 u1 u2 u3 u4 u5 u6 : Value} (h : At8 w Wn F G q d X Y A' c' es' Ac' cc' Ah' ch' p #[u0, u1, u2, u3, u4, u5, u6] cs2) (v0 v1 v2 v3 v4 : Value) :
    At8 w (((((Wn.setCell ⟨w.heap.size, 0, none⟩ v0).setCell ⟨w.heap.size, 1, none⟩ v1).setCell ⟨w.heap.size, 2, none⟩ v2).setCell ⟨w.heap.size, 3, none⟩ v3).setCell ⟨w.heap.size, 4, none⟩ v4) F G q d X Y A' c' es' Ac' cc' Ah' ch' p #[v0, v1, v2, v3, v4, u5, u6] cs2 :=
  h.box (Mods.set5 _ _ _ _ _ _ _ _ ⟨Nat.le_refl _, by omega⟩) (h.b0.set5of7 v0 v1 v2 v3 v4) (h.b1.mods (Mods.set5 (fun k => k = w.heap.size) Wn w.heap.size v0 v1 v2 v3 v4 rfl) (by omega)) (h.b2.mods (Mods.set5 (fun k => k = w.heap.size) Wn w.heap.size v0 v1 v2 v3 v4 rfl) (by omega))
/-- The drive has taken a turn. -/
theorem At8.drvCore (h : At8 w Wn F G q d X Y A' c' es' Ac' cc' Ah' ch' p cs0 cs2) : ∃ F1, DrvAt Wn q d X F1 ∧ (∀ k, F1 k → F k ∨ w.heap.size + 3 ≤ k) ∧ ∀ w' X', DrvDid Wn w' q d X' F1 → At8 w w' F G q d X' Y A' c' es' Ac' cc' Ah' ch' p cs0 cs2 := by
  obtain ⟨F1, G1, hd, hr, hF, hG, hap⟩ := h.both
  refine ⟨F1, hd, hF, fun w' X' hdid => ?_⟩
  have hlt1 := hd.lt
  obtain ⟨F2, FD2, A, c, bs, Fs, mb, n, Ac, cc, Ah, ch, h2, hm, hF2⟩ := hdid
  have hs := hm.size
  have hsz := h.size
  have hN : ∀ g, w.heap.size ≤ g → g < w.heap.size + 3 → ¬ F1 g := fun g h1 h2 h3 => by
    rcases hF g h3 with h4 | h4
    · have := h.ltF g h4; omega
    · omega
  refine ⟨⟨F2, G1, ⟨_, _, _, _, _, _, _, _, _, _, _, h2⟩, hr.mods hm (fun k hk _ hf => hap k hf hk), fun k hk => ?_, fun k hk => ⟨(hG k hk).1, by have := (hG k hk).2; omega⟩, fun k hk hg => ?_⟩, h.ltF, h.ltG, h.mods.trans hm (fun k hk hf => ?_), h.b0.mods hm (hN _ (by omega) (by omega)), h.b1.mods hm (hN _ (by omega) (by omega)), h.b2.mods hm (hN _ (by omega) (by omega)), by omega⟩
  · rcases hF2 k hk with h3 | h3
    · exact hF k h3
    · right; omega
  · rcases hF2 k hk with h3 | h3
    · exact hap k h3 hg
    · have := (hG k hg).2; omega
  · rcases hF k hf with h3 | h3
    · exact h3
    · omega
theorem At8.drv {fn : FuncId} {args : Array Value} {r : Ending} (h : At8 w Wn F G q d X Y A' c' es' Ac' cc' Ah' ch' p cs0 cs2)
    (hc : ∀ F1 FD A c bs Fs mb n Ac cc Ah ch, DrvIs Wn q d X F1 FD A c bs Fs mb n Ac cc Ah ch → (∀ k, F1 k → F k ∨ w.heap.size + 3 ≤ k) → Calls Try.prog fn args Wn fun en w' => en = r ∧ DrvDid Wn w' q d X2 F1) :
    Calls Try.prog fn args Wn fun en w' => en = r ∧ At8 w w' F G q d X2 Y A' c' es' Ac' cc' Ah' ch' p cs0 cs2 := by
  obtain ⟨F1, ⟨FD, A, c, bs, Fs, mb, n, Ac, cc, Ah, ch, h1⟩, hF, hk⟩ := h.drvCore
  exact (hc _ _ _ _ _ _ _ _ _ _ _ _ h1 hF).mono (fun e w' he => ⟨he.1, hk w' X2 he.2⟩)
/-- The document's has taken a turn; its box holds what it held. -/
theorem At8.refCore (h : At8 w Wn F G q d X Y A' c' es' Ac' cc' Ah' ch' p cs0 cs2) : ∃ G1, Ref8 Wn Y A' c' es' Ac' cc' Ah' ch' G1 ∧ ∀ w' Y' A2 c2 es2 Ac2 cc2 Ah2 ch2, Ref8 w' Y' A2 c2 es2 Ac2 cc2 Ah2 ch2 (fun k => G1 k ∨ Wn.heap.size ≤ k) → Below Wn.heap.size Wn w' → At8 w w' F G q d X Y' A2 c2 es2 Ac2 cc2 Ah2 ch2 p cs0 cs2 := by
  obtain ⟨F1, G1, hd, hr, hF, hG, hap⟩ := h.both
  refine ⟨G1, hr, fun w' Y' A2 c2 es2 Ac2 cc2 Ah2 ch2 h2 hb => ?_⟩
  have hm := Mods.of_below hb (fun _ => False)
  have hlt := hd.lt
  have hs := hb.size
  refine ⟨⟨F1, fun k => (G1 k ∨ Wn.heap.size ≤ k) ∧ k < w'.heap.size, hd.mods hm (fun _ _ h => h), h2.tight, hF, fun k hk => ⟨?_, hk.2⟩, fun k hk hg => ?_⟩, h.ltF, h.ltG, h.mods.trans hm (fun _ _ h => h.elim), h.b0.mods hm (fun h => h), h.b1.mods hm (fun h => h), h.b2.mods hm (fun h => h), by have := h.size; omega⟩
  · rcases hk.1 with h3 | h3
    · exact (hG k h3).1
    · have := h.size; right; omega
  · rcases hg.1 with h3 | h3
    · exact hap k hk h3
    · have := hlt k hk; omega
theorem At8.ref {fn : FuncId} {args : Array Value} (h : At8 w Wn F G q d X Y A' c' es' Ac' cc' Ah' ch' p cs0 cs2) (hc : ∀ G1, Ref8 Wn Y A' c' es' Ac' cc' Ah' ch' G1 → Calls Try.prog fn args Wn (Gave8 Wn G1 Y2)) :
    Calls Try.prog fn args Wn fun en w' => ∃ A2 c2 es2 Ac2 cc2 Ah2 ch2, en = .returned (agg8 Y2 A2 c2 Ac2 cc2 Ah2 ch2) ∧ At8 w w' F G q d X Y2 A2 c2 es2 Ac2 cc2 Ah2 ch2 p cs0 cs2 := by
  obtain ⟨G1, hr, hk⟩ := h.refCore
  refine (hc G1 hr).mono (fun e w' he => ?_)
  obtain ⟨A2, c2, es2, Ac2, cc2, Ah2, ch2, he, h2, hb⟩ := he
  exact ⟨A2, c2, es2, Ac2, cc2, Ah2, ch2, he, hk _ _ _ _ _ _ _ _ _ h2 hb⟩
theorem At8.refP {fn : FuncId} {args : Array Value} {r : Dr × Int} (h : At8 w Wn F G q d X Y A' c' es' Ac' cc' Ah' ch' p cs0 cs2) (hc : ∀ G1, Ref8 Wn Y A' c' es' Ac' cc' Ah' ch' G1 → Calls Try.prog fn args Wn (GaveP Wn G1 r)) :
    Calls Try.prog fn args Wn fun en w' => ∃ A2 c2 es2 Ac2 cc2 Ah2 ch2, en = .returned (.tuple #[agg8 r.1 A2 c2 Ac2 cc2 Ah2 ch2, .int .i64 r.2]) ∧ At8 w w' F G q d X r.1 A2 c2 es2 Ac2 cc2 Ah2 ch2 p cs0 cs2 := by
  obtain ⟨G1, hr, hk⟩ := h.refCore
  refine (hc G1 hr).mono (fun e w' he => ?_)
  obtain ⟨A2, c2, es2, Ac2, cc2, Ah2, ch2, he, h2, hb⟩ := he
  exact ⟨A2, c2, es2, Ac2, cc2, Ah2, ch2, he, hk _ _ _ _ _ _ _ _ _ h2 hb⟩
/-- The document's device alone has taken a turn. -/
theorem Ref8.dev {w w' : World} {Y : Dr} {D' : Dv} {A2 : Option Addr} {c2 : Nat} {es2 : List RZ} (h : Ref8 w Y A' c' es' Ac' cc' Ah' ch' G) (h2 : RefIs w' D' A2 c2 es2 (fun k => G k ∨ w.heap.size ≤ k)) (hb : Below w.heap.size w w') : Ref8 w' { Y with D := D' } A2 c2 es2 Ac' cc' Ah' ch' (fun k => G k ∨ w.heap.size ≤ k) := by
  have h3 := h.below hb
  exact ⟨h2, h3.com.mono (fun k hk => .inl hk), h3.comc, h3.hap, fun g hg => .inl (h3.hapG g hg)⟩
def aggV (A : Option Addr) (c : Nat) (D : Dv) : Value := .agg #[.slice A D.zs.length c, .int .i64 D.size, .int .i64 D.op, .int .i64 (D.n : Int), .bool D.down]
theorem At8.gave {fn : FuncId} {args : Array Value} {D' : Dv} {code : Int} (h : At8 w Wn F G q d X Y A' c' es' Ac' cc' Ah' ch' p cs0 cs2) (hc : ∀ G1, RefIs Wn Y.D A' c' es' G1 → Calls Try.prog fn args Wn (R7.Gave Wn G1 D' code)) :
    Calls Try.prog fn args Wn fun en w' => ∃ A2 c2 es2, en = .returned (.tuple #[aggV A2 c2 D', .int .i64 code]) ∧ At8 w w' F G q d X { Y with D := D' } A2 c2 es2 Ac' cc' Ah' ch' p cs0 cs2 := by
  obtain ⟨G1, hr, hk⟩ := h.refCore
  refine (hc G1 hr.ref).mono (fun e w' he => ?_)
  obtain ⟨A2, c2, es2, he, h2, hb⟩ := he
  exact ⟨A2, c2, es2, he, hk _ _ _ _ _ _ _ _ _ (hr.dev h2 hb) hb⟩
theorem At8.gave3 {fn : FuncId} {args : Array Value} {D' : Dv} {off code : Int} (h : At8 w Wn F G q d X Y A' c' es' Ac' cc' Ah' ch' p cs0 cs2) (hc : ∀ G1, RefIs Wn Y.D A' c' es' G1 → Calls Try.prog fn args Wn (R7.Gave3 Wn G1 D' off code)) :
    Calls Try.prog fn args Wn fun en w' => ∃ A2 c2 es2, en = .returned (.tuple #[aggV A2 c2 D', .int .i64 off, .int .i64 code]) ∧ At8 w w' F G q d X { Y with D := D' } A2 c2 es2 Ac' cc' Ah' ch' p cs0 cs2 := by
  obtain ⟨G1, hr, hk⟩ := h.refCore
  refine (hc G1 hr.ref).mono (fun e w' he => ?_)
  obtain ⟨A2, c2, es2, he, h2, hb⟩ := he
  exact ⟨A2, c2, es2, he, hk _ _ _ _ _ _ _ _ _ (hr.dev h2 hb) hb⟩
theorem At8.gaveS {fn : FuncId} {args : Array Value} {D' : Dv} {s : Sec} {code : Int} (h : At8 w Wn F G q d X Y A' c' es' Ac' cc' Ah' ch' p cs0 cs2) (hc : ∀ G1, RefIs Wn Y.D A' c' es' G1 → Calls Try.prog fn args Wn (R7.GaveS Wn G1 D' s code)) :
    Calls Try.prog fn args Wn fun en w' => ∃ A2 c2 es2, en = .returned (.tuple #[aggV A2 c2 D', s.agg, .int .i64 code]) ∧ At8 w w' F G q d X { Y with D := D' } A2 c2 es2 Ac' cc' Ah' ch' p cs0 cs2 := by
  obtain ⟨G1, hr, hk⟩ := h.refCore
  refine (hc G1 hr.ref).mono (fun e w' he => ?_)
  obtain ⟨A2, c2, es2, he, h2, hb⟩ := he
  exact ⟨A2, c2, es2, he, hk _ _ _ _ _ _ _ _ _ (hr.dev h2 hb) hb⟩
theorem At8.put {fn : FuncId} {args : Array Value} {D' : Dv} (h : At8 w Wn F G q d X Y A' c' es' Ac' cc' Ah' ch' p cs0 cs2) (hc : ∀ G1, RefIs Wn Y.D A' c' es' G1 → Calls Try.prog fn args Wn (R7.Put Wn G1 D')) :
    Calls Try.prog fn args Wn fun en w' => ∃ A2 c2 es2, en = .returned (aggV A2 c2 D') ∧ At8 w w' F G q d X { Y with D := D' } A2 c2 es2 Ac' cc' Ah' ch' p cs0 cs2 := by
  obtain ⟨G1, hr, hk⟩ := h.refCore
  refine (hc G1 hr.ref).mono (fun e w' he => ?_)
  obtain ⟨A2, c2, es2, he, h2, hb⟩ := he
  exact ⟨A2, c2, es2, he, hk _ _ _ _ _ _ _ _ _ (hr.dev h2 hb) hb⟩
/-- The document's Read, where rows of blocks made by the step are written behind it. -/
theorem At8.readS {wB : World} {fn : FuncId} {args : Array Value} {D' : Dv} {s : Sec} {code : Int} {g : Nat} (h : At8 w Wn F G q d X Y A' c' es' Ac' cc' Ah' ch' p cs0 cs2) (hb : Below Wn.heap.size Wn wB) (hg1 : Wn.heap.size ≤ g) (hg2 : g < wB.heap.size) (hc : ∀ G1, RefIs wB Y.D A' c' es' G1 → Calls Try.prog fn args wB (R7.GaveS wB G1 D' s code)) :
    Calls Try.prog fn args wB fun en w' => ∃ A2 c2 es2, en = .returned (.tuple #[aggV A2 c2 D', s.agg, .int .i64 code]) ∧ Below wB.heap.size wB w' ∧ Blk w' w.heap.size 62 cs0 ∧ Blk w' (w.heap.size + 1) 68 p.cells.toArray ∧ Blk w' (w.heap.size + 1 + 1) 62 cs2 ∧
      ∀ W2 cs0' cs2', Mods (fun k => (w.heap.size ≤ k ∧ k < w.heap.size + 3) ∨ k = g) w' W2 → Blk W2 w.heap.size 62 cs0' → Blk W2 (w.heap.size + 1) 68 p.cells.toArray → Blk W2 (w.heap.size + 1 + 1) 62 cs2' → At8 w W2 F G q d X { Y with D := D' } A2 c2 es2 Ac' cc' Ah' ch' p cs0' cs2' := by
  obtain ⟨F1, G1, hd, hr, hF, hG, hap⟩ := h.both
  have hrB := (hr.below hb).tight
  have hlt := hd.lt
  have hsz := h.size
  have hbs := hb.size
  refine (hc _ ((hr.below hb).mono (G' := fun k => G1 k) (fun _ h => h)).ref).mono (fun e w' he => ?_)
  obtain ⟨A2, c2, es2, he, h2, hb2⟩ := he
  have hb2s := hb2.size
  refine ⟨A2, c2, es2, he, hb2, (hb2.block _ (by omega)).trans ((hb.block _ h.b0.lt).trans h.b0), (hb2.block _ (by omega)).trans ((hb.block _ h.b1.lt).trans h.b1), (hb2.block _ (by omega)).trans ((hb.block _ h.b2.lt).trans h.b2), fun W2 cs0' cs2' hm b0 b1 b2 => ?_⟩
  have hms := hm.size
  have hr2 := (((hr.below hb).mono (G' := fun k => G1 k) (fun _ h => h)).dev h2 hb2)
  have nF : ∀ k, F1 k → ¬ ((w.heap.size ≤ k ∧ k < w.heap.size + 3) ∨ k = g) := fun k hk e => by
    have := hlt k hk
    rcases hF k hk with h3 | h3
    · have := h.ltF k h3; omega
    · omega
  have hr3 := hr2.mods hm (fun k hk _ e => by
    rcases hk with hk | hk
    · have := (hG k hk).2
      rcases (hG k hk).1 with h3 | h3
      · have := h.ltG k h3; omega
      · omega
    · omega)
  refine ⟨⟨F1, fun k => (G1 k ∨ wB.heap.size ≤ k) ∧ k < W2.heap.size, ((hd.mods (Mods.of_below hb (fun _ => False)) (fun _ _ h => h)).mods (Mods.of_below hb2 (fun _ => False)) (fun _ _ h => h)).mods hm nF, hr3.tight, hF, fun k hk => ⟨?_, hk.2⟩, fun k hk hg => ?_⟩, h.ltF, h.ltG, ((h.mods.trans (Mods.of_below hb F) (fun _ _ h => h)).trans (Mods.of_below hb2 F) (fun _ _ h => h)).trans hm (fun k hk e => by omega), b0, b1, b2, by omega⟩
  · rcases hk.1 with h3 | h3
    · exact (hG k h3).1
    · right; omega
  · rcases hg.1 with h3 | h3
    · exact hap k hk h3
    · have := hlt k hk; omega
/-- The step begins. -/
theorem At8.start (h : Two8 w q d X F G A' c' es' Ac' cc' Ah' ch') (p : OpP) (hW : ((w.alloc (.cells #[.slice A' X.D.zs.length c', .int .i64 X.D.size, .int .i64 X.D.op, .int .i64 (X.D.n : Int), .bool X.D.down, .slice Ac' X.coming.length cc', .slice Ah' X.happened.length ch'] 62)).alloc (.cells p.cells.toArray 68)).alloc (.cells #[.slice none 0 0, .int .i64 0, .int .i64 0, .int .i64 0, .bool false, .slice none 0 0, .slice none 0 0] 62) = Wn) : At8 w Wn F G q d X X A' c' es' Ac' cc' Ah' ch' p #[.slice A' X.D.zs.length c', .int .i64 X.D.size, .int .i64 X.D.op, .int .i64 (X.D.n : Int), .bool X.D.down, .slice Ac' X.coming.length cc', .slice Ah' X.happened.length ch'] #[.slice none 0 0, .int .i64 0, .int .i64 0, .int .i64 0, .bool false, .slice none 0 0, .slice none 0 0] := by
  have hB : Below w.heap.size w (((w.alloc (.cells #[.slice A' X.D.zs.length c', .int .i64 X.D.size, .int .i64 X.D.op, .int .i64 (X.D.n : Int), .bool X.D.down, .slice Ac' X.coming.length cc', .slice Ah' X.happened.length ch'] 62)).alloc (.cells p.cells.toArray 68)).alloc (.cells #[.slice none 0 0, .int .i64 0, .int .i64 0, .int .i64 0, .bool false, .slice none 0 0, .slice none 0 0] 62)) := (((Below.refl _ w).alloc (Nat.le_refl _) _).alloc (by simp) _).alloc (by simp; omega) _
  have k0 := ((Blk.new w 62 #[.slice A' X.D.zs.length c', .int .i64 X.D.size, .int .i64 X.D.op, .int .i64 (X.D.n : Int), .bool X.D.down, .slice Ac' X.coming.length cc', .slice Ah' X.happened.length ch']).alloc (.cells p.cells.toArray 68)).alloc (.cells #[.slice none 0 0, .int .i64 0, .int .i64 0, .int .i64 0, .bool false, .slice none 0 0, .slice none 0 0] 62)
  have ko := (Blk.new (w.alloc (.cells #[.slice A' X.D.zs.length c', .int .i64 X.D.size, .int .i64 X.D.op, .int .i64 (X.D.n : Int), .bool X.D.down, .slice Ac' X.coming.length cc', .slice Ah' X.happened.length ch'] 62)) 68 p.cells.toArray).alloc (.cells #[.slice none 0 0, .int .i64 0, .int .i64 0, .int .i64 0, .bool false, .slice none 0 0, .slice none 0 0] 62)
  have kr := Blk.new ((w.alloc (.cells #[.slice A' X.D.zs.length c', .int .i64 X.D.size, .int .i64 X.D.op, .int .i64 (X.D.n : Int), .bool X.D.down, .slice Ac' X.coming.length cc', .slice Ah' X.happened.length ch'] 62)).alloc (.cells p.cells.toArray 68)) 62 #[.slice none 0 0, .int .i64 0, .int .i64 0, .int .i64 0, .bool false, .slice none 0 0, .slice none 0 0]
  rw [World.size_alloc] at ko
  rw [World.size_alloc, World.size_alloc] at kr
  rw [hW] at hB k0 ko kr
  have hm := Mods.of_below hB (fun _ => False)
  have hl := kr.lt
  exact ⟨⟨F, G, h.drv.mods hm (fun _ _ h => h), h.ref.below hB, fun k hk => .inl hk, fun k hk => ⟨.inl hk, by have := h.old k hk; omega⟩, h.apart⟩, h.lt, h.old, Mods.of_below hB F, k0, ko, kr, by omega⟩
/-- The result is written. -/
theorem At8.put2 {u0 u1 u2 u3 u4 u5 u6 : Value} (h : At8 w Wn F G q d X Y A' c' es' Ac' cc' Ah' ch' p cs0 #[u0, u1, u2, u3, u4, u5, u6]) (v0 v1 v2 v3 v4 v5 v6 : Value) :
    At8 w (put7 Wn (w.heap.size + 1 + 1) v0 v1 v2 v3 v4 v5 v6) F G q d X Y A' c' es' Ac' cc' Ah' ch' p cs0 #[v0, v1, v2, v3, v4, v5, v6] := by
  have hm : Mods (fun k => k = w.heap.size + 1 + 1) Wn (put7 Wn (w.heap.size + 1 + 1) v0 v1 v2 v3 v4 v5 v6) := Mods.put7 _ _ _ _ _ _ _ _ _ _ rfl
  exact h.box (hm.mono (fun k _ e => by omega)) (h.b0.mods hm (by omega)) (h.b1.mods hm (by omega)) (h.b2.put7 v0 v1 v2 v3 v4 v5 v6)
/-- The step ends. -/
theorem At8.done {e : Ending} (h : At8 w Wn F G q d X Y A' c' es' Ac' cc' Ah' ch' p cs0 cs2) (hl : Alike X Y) (he : e = .returned (.tuple #[agg8 Y A' c' Ac' cc' Ah' ch', .bool true])) : Stepped8 w F G q d X e Wn := by
  obtain ⟨F1, G1, hd, hr, hF, hG, hap⟩ := h.both
  have hm := h.mods
  clear h
  obtain ⟨DX, cX, hX, mX⟩ := X
  obtain ⟨DY, cY, hY, mY⟩ := Y
  obtain ⟨q1, q2, q3⟩ := hl
  dsimp only at q1 q2 q3
  subst q1 q2 q3
  exact ⟨_, _, es', _, _, _, _, he, F1, G1, ⟨hd, ⟨hr.ref, hr.com, hr.comc, hr.hap, hr.hapG⟩, hap, fun k hk => (hG k hk).2⟩, hm, fun k hk => (hF k hk).imp id (fun h => by omega), fun k hk => (hG k hk).1.imp id (fun h => by omega)⟩
/-- What a region that draws its order reads. -/
structure Seen (W : World) (b : Nat) (u0 u1 u2 u3 u4 u5 u6 : Value) (p : OpP) : Prop where
  c0 : W.cell? ⟨b, 0, none⟩ = some u0
  c1 : W.cell? ⟨b, 1, none⟩ = some u1
  c2 : W.cell? ⟨b, 2, none⟩ = some u2
  c3 : W.cell? ⟨b, 3, none⟩ = some u3
  c4 : W.cell? ⟨b, 4, none⟩ = some u4
  c5 : W.cell? ⟨b, 5, none⟩ = some u5
  c6 : W.cell? ⟨b, 6, none⟩ = some u6
  zone : W.cell? ⟨b + 1, 1, none⟩ = some (.int .i64 p.o.zone)
  ev : W.rangeAt (b + 1) 68 p.e.cells
end
theorem Blk.castW {w w' : World} {g : Nat} {t : TypeId} {cs : Array Value} (h : Blk w g t cs) (hW : w = w') : Blk w' g t cs := hW ▸ h
/-! ### min, max -/
theorem min_i64 (ats : Array TypeId) (ty : TypeId) (u v : Int) : Builtin.min_ ats ty #[.int .i64 u, .int .i64 v] = pure (.int .i64 (min u v)) := by
  have e : (if v < u then v else u) = min u v := by split <;> omega
  simp [Builtin.min_, Builtin.min2, e]
theorem wpList_min {P : Program} {ops : Array Oper} {rest : List Oper} {o : Oper} {a : Act} {w : World} {Q : Exit → Act → World → Prop} (hgd : o.guard = none) (x y : Operand) (ats : Array TypeId) (ho : o.op = .call { callee := .builtin .min, args := #[x, y], argTypes := ats }) (u v : Int) (hx : a.eval x = .int .i64 u) (hy : a.eval y = .int .i64 v)
    (h : wpList P ops Q rest (a.put o.dst (.int .i64 (min u v))) w) : wpList P ops Q (o :: rest) a w :=
  wpList_plain hgd fun _ hK => by
    obtain ⟨dst, op, ty, pos, after, guard⟩ := o
    dsimp only at ho
    subst ho
    unfold Oper.wp
    rw [BigFrame.execOp_builtin, BigFrame.builtin_min]
    simp only [List.map_toArray, List.map_cons, List.map_nil, hx, hy, min_i64, Sem.run_pure, pure_bind]
    exact hK _ _ h
theorem max_i64 (ats : Array TypeId) (ty : TypeId) (u v : Int) : Builtin.max_ ats ty #[.int .i64 u, .int .i64 v] = pure (.int .i64 (max u v)) := by
  have e : (if v > u then v else u) = max u v := by split <;> omega
  simp [Builtin.max_, Builtin.max2, e]
theorem wpList_max {P : Program} {ops : Array Oper} {rest : List Oper} {o : Oper} {a : Act} {w : World} {Q : Exit → Act → World → Prop} (hgd : o.guard = none) (x y : Operand) (ats : Array TypeId) (ho : o.op = .call { callee := .builtin .max, args := #[x, y], argTypes := ats }) (u v : Int) (hx : a.eval x = .int .i64 u) (hy : a.eval y = .int .i64 v)
    (h : wpList P ops Q rest (a.put o.dst (.int .i64 (max u v))) w) : wpList P ops Q (o :: rest) a w :=
  wpList_plain hgd fun _ hK => by
    obtain ⟨dst, op, ty, pos, after, guard⟩ := o
    dsimp only at ho
    subst ho
    unfold Oper.wp
    rw [BigFrame.execOp_builtin, BigFrame.builtin_max]
    simp only [List.map_toArray, List.map_cons, List.map_nil, hx, hy, max_i64, Sem.run_pure, pure_bind]
    exact hK _ _ h
/-! ### A step's box -/
theorem OpP.at_ {W : World} {b : Nat} {T : TypeId} {p : OpP} (h : Blk W b T p.cells.toArray) : W.cell? ⟨b, 0, none⟩ = some (.int .i64 p.o.kind) ∧ W.cell? ⟨b, 1, none⟩ = some (.int .i64 p.o.zone) ∧ W.cell? ⟨b, 2, none⟩ = some (.int .i64 p.o.off) ∧ W.cell? ⟨b, 67, none⟩ = some (.slice p.o.K p.o.keep.length p.o.kc) ∧ W.rangeAt b 3 p.o.s.cs ∧ W.rangeAt b 68 p.e.cells := by
  have hl := p.o.length
  have g1 : ∀ i v, p.o.cells[i]? = some v → W.cell? ⟨b, i, none⟩ = some v := fun i v hv => by
    rw [h.cell i, List.getElem?_toArray, OpP.cells, List.getElem?_append_left (List.getElem?_eq_some_iff.1 hv).1, hv]
  have hs := p.o.s.len
  refine ⟨g1 0 _ rfl, g1 1 _ rfl, g1 2 _ rfl, g1 67 _ ?_, fun j v hv => g1 (3 + j) v ?_, fun j v hv => ?_⟩
  · unfold OpV.cells
    rw [List.getElem?_append_right (by simp [hs])]
    simp [hs]
  · have hj : j < 64 := by rw [← hs]; exact (List.getElem?_eq_some_iff.1 hv).1
    unfold OpV.cells
    rw [List.append_assoc, List.getElem?_append_right (by simp), List.getElem?_append_left (by simp [hs]; omega)]
    simpa using hv
  · rw [h.cell (68 + j), List.getElem?_toArray, OpP.cells, List.getElem?_append_right (by omega), hl, show 68 + j - 68 = j by omega]
    exact hv
theorem At8.seen {w Wn : World} {F G : Nat → Prop} {q d : Nat} {X Y : Dr} {A' : Option Addr} {c' : Nat} {es' : List RZ} {Ac' : Option Addr} {cc' : Nat} {Ah' : Option Addr} {ch' : Nat} {p : OpP} {cs2 : Array Value} {u0 u1 u2 u3 u4 u5 u6 : Value} (h : At8 w Wn F G q d X Y A' c' es' Ac' cc' Ah' ch' p #[u0, u1, u2, u3, u4, u5, u6] cs2) : Seen Wn w.heap.size u0 u1 u2 u3 u4 u5 u6 p := by
  obtain ⟨a0, a1, a2, a3, a4, a5, a6, -⟩ := h.b0.seven
  obtain ⟨-, o1, -, -, -, oe⟩ := OpP.at_ h.b1
  exact ⟨a0, a1, a2, a3, a4, a5, a6, o1, oe⟩
end Go.Proofs.Ytdinbhanekpjoaa
