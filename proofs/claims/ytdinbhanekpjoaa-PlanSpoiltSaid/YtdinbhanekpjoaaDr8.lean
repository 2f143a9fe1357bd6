/-
  A drive: its plain form, and how it lies in memory.
-/
import Derived.Test.YtdinbhanekpjoaaMap8
import Derived.Test.YtdinbhanekpjoaaTwo7
namespace Go.Proofs.Ytdinbhanekpjoaa
open Go.RowKit

def EvV.right (e : EvV) : Bool := decide (0 ≤ e.at_) && decide (1 ≤ e.kind) && decide (e.kind ≤ 4)
/-- An event finds its place: ahead of the first that is later. -/
def insertEv (e : EvV) : List EvV → List EvV
  | [] => [e]
  | x :: l => if e.at_ < x.at_ then e :: x :: l else x :: insertEv e l
/-- The plain form of a drive. -/
structure Dr where
  D : Dv
  coming : List EvV
  happened : List EvV
  marks : Marks
namespace Dr
def plan (X : Dr) (e : EvV) : Dr × Int := if e.right = false then (X, 10) else if 256 ≤ X.coming.length then (X, 17) else ({ X with coming := insertEv e X.coming }, 0)
def spoil (X : Dr) (e : EvV) : Dr :=
  if (X.D.spoil e.zone e.off e.p).2 = 0 then { X with D := (X.D.spoil e.zone e.off e.p).1, marks := X.marks.upd e.zone e.off ((X.marks e.zone e.off).1.xor e.p, (X.marks e.zone e.off).2 + 1) }
  else { X with D := (X.D.spoil e.zone e.off e.p).1 }
def noted (X : Dr) (e : EvV) : Dr := { X with happened := X.happened ++ [e] }
def happen (X : Dr) (e : EvV) : Dr :=
  if e.kind = 1 then (X.noted e).spoil e else if e.kind = 2 then { X.noted e with D := (X.D.fail e.zone 3).1 } else if e.kind = 3 then { X.noted e with D := (X.D.fail e.zone 4).1 }
  else if e.kind = 4 then { X.noted e with D := { X.D with down := true } } else X.noted e
def dueL : List EvV → Dr → Dr
  | [], X => X
  | e :: l, X => if X.D.down = false ∧ e.at_ ≤ (X.D.n : Int) then dueL l (({ X with coming := l } : Dr).happen e) else X
def due (X : Dr) : Dr := dueL X.coming X
def begin_ (X : Dr) (z : Int) : Dr := if 0 ≤ z ∧ z < (X.D.zs.length : Int) then X.due else X
def append (X : Dr) (z : Int) (s : Sec) : Dr × Int × Int :=
  ({ X.begin_ z with D := ((X.begin_ z).D.append z s).1, marks := if ((X.begin_ z).D.append z s).2.2 = 0 then (X.begin_ z).marks.upd z ((X.begin_ z).D.append z s).2.1 (Sec.zero, 0) else (X.begin_ z).marks }, ((X.begin_ z).D.append z s).2)
def read (X : Dr) (z off : Int) : Dr × Sec × Int := ({ X.begin_ z with D := ((X.begin_ z).D.read z off).1 }, ((X.begin_ z).D.read z off).2)
def reset (X : Dr) (z : Int) : Dr × Int :=
  ({ X.begin_ z with D := ((X.begin_ z).D.reset z).1, marks := if ((X.begin_ z).D.reset z).2 = 0 then (X.begin_ z).marks.forget (X.begin_ z).D.size z 0 else (X.begin_ z).marks }, ((X.begin_ z).D.reset z).2)
def finish (X : Dr) (z : Int) : Dr × Int := ({ X.begin_ z with D := ((X.begin_ z).D.finish z).1 }, ((X.begin_ z).D.finish z).2)
def flush (X : Dr) : Dr × Int := ({ X.due with D := X.due.D.flush.1 }, X.due.D.flush.2)
/-- The marks that a Revive leaves, when k zones are done. -/
def revTo (M : Marks) (D : Dv) : Nat → Marks
  | 0 => M
  | k + 1 => (revTo M D k).forget D.size (k : Int) (D.lenOf (k : Int))
def revive (X : Dr) (keep : List Int) : Dr := { X with D := X.D.revive keep, marks := revTo X.marks (X.D.revive keep) (X.D.revive keep).zs.length }
end Dr

/-- The block that a slice's address lies in. -/
def blkOf (A : Option Addr) : Option Nat := A.map (·.block)
theorem own_blkOf (A : Option Addr) (n c : Nat) : (Value.slice A n c).ownBlock = blkOf A := by cases A <;> rfl

/-- Block q is the drive X over the device at d; its blocks are in F, those of the device in FD. -/
structure DrvIs (w : World) (q d : Nat) (X : Dr) (F FD : Nat → Prop) (A : Option Addr) (c : Nat) (bs : List Nat) (Fs : Nat → Nat → Prop) (mb n : Nat) (Ac : Option Addr) (cc : Nat) (Ah : Option Addr) (ch : Nat) : Prop where
  blk : Blk w q 121 #[ptr d, .slice Ac X.coming.length cc, .slice Ah X.happened.length ch, .map (some mb)]
  dev : DevIs w d X.D FD A c bs Fs
  com : w.ownsRow 0 66 68 (.slice Ac X.coming.length cc) X.coming.length (X.coming.flatMap EvV.cells)
  hap : w.ownsRow 0 66 68 (.slice Ah X.happened.length ch) X.happened.length (X.happened.flatMap EvV.cells)
  map : MapIs w mb n X.marks
  cnt : n ≤ X.happened.length
  inF : F q ∧ F mb ∧ (∀ k, FD k → F k) ∧ (∀ g, blkOf Ac = some g → F g) ∧ ∀ g, blkOf Ah = some g → F g
  noD : ¬ FD q ∧ ¬ FD mb ∧ q ≠ mb
  noC : ∀ g, blkOf Ac = some g → g ≠ q ∧ g ≠ mb ∧ ¬ FD g
  noH : ∀ g, blkOf Ah = some g → g ≠ q ∧ g ≠ mb ∧ ¬ FD g
  noCH : ∀ g, blkOf Ac = some g → blkOf Ah ≠ some g
  lt : ∀ k, F k → k < w.heap.size

/-- A call has turned the drive at q into X'. -/
def DrvDid (w w' : World) (q d : Nat) (X' : Dr) (F : Nat → Prop) : Prop :=
  ∃ F' FD' A c bs Fs' mb n' Ac cc Ah ch, DrvIs w' q d X' F' FD' A c bs Fs' mb n' Ac cc Ah ch ∧ Mods F w w' ∧ ∀ k, F' k → F k ∨ w.heap.size ≤ k

section
variable {w w' w1 w2 : World} {q d : Nat} {X X1 X2 : Dr} {F FD S : Nat → Prop} {A : Option Addr} {c : Nat} {bs : List Nat} {Fs : Nat → Nat → Prop} {mb n : Nat} {Ac : Option Addr} {cc : Nat} {Ah : Option Addr} {ch : Nat}
theorem DrvIs.mods (h : DrvIs w q d X F FD A c bs Fs mb n Ac cc Ah ch) (hm : Mods S w w') (hd : ∀ k, F k → ¬ S k) : DrvIs w' q d X F FD A c bs Fs mb n Ac cc Ah ch :=
  ⟨h.blk.mods hm (hd q h.inF.1), h.dev.mods hm (fun k hk => hd k (h.inF.2.2.1 k hk)), own_mods h.com hm (fun g hg => hd g (h.inF.2.2.2.1 g (by rwa [own_blkOf] at hg))), own_mods h.hap hm (fun g hg => hd g (h.inF.2.2.2.2 g (by rwa [own_blkOf] at hg))),
    h.map.mods hm (hd mb h.inF.2.1), h.cnt, h.inF, h.noD, h.noC, h.noH, h.noCH, fun k hk => Nat.lt_of_lt_of_le (h.lt k hk) hm.size⟩
theorem DrvIs.below (h : DrvIs w q d X F FD A c bs Fs mb n Ac cc Ah ch) (hb : Below w.heap.size w w') : DrvIs w' q d X F FD A c bs Fs mb n Ac cc Ah ch := h.mods (Mods.of_below hb (fun _ => False)) (fun _ _ h => h)
theorem DrvIs.drewN (h : DrvIs w q d X F FD A c bs Fs mb n Ac cc Ah ch) (k : Nat) : DrvIs (w.drewN k) q d X F FD A c bs Fs mb n Ac cc Ah ch := h.mods ((Mods.refl (fun _ => False) w).drewN k) (fun _ _ h => h)
theorem DrvIs.drew (h : DrvIs w q d X F FD A c bs Fs mb n Ac cc Ah ch) : DrvIs w.drew q d X F FD A c bs Fs mb n Ac cc Ah ch := h.mods ((Mods.refl (fun _ => False) w).drew) (fun _ _ h => h)
theorem DrvIs.did (h : DrvIs w q d X F FD A c bs Fs mb n Ac cc Ah ch) (hb : Below w.heap.size w w') : DrvDid w w' q d X F :=
  ⟨F, FD, A, c, bs, Fs, mb, n, Ac, cc, Ah, ch, h.below hb, Mods.of_below hb _, fun _ hk => .inl hk⟩
theorem DrvIs.same (h : DrvIs w q d X F FD A c bs Fs mb n Ac cc Ah ch) : DrvDid w w q d X F := ⟨F, FD, A, c, bs, Fs, mb, n, Ac, cc, Ah, ch, h, Mods.refl _ _, fun _ hk => .inl hk⟩
theorem DrvDid.trans (h : DrvDid w w1 q d X1 F) (k : ∀ F1 FD1 A c bs Fs1 mb n Ac cc Ah ch, DrvIs w1 q d X1 F1 FD1 A c bs Fs1 mb n Ac cc Ah ch → DrvDid w1 w2 q d X2 F1) : DrvDid w w2 q d X2 F := by
  obtain ⟨F1, FD1, A, c, bs, Fs1, mb, n, Ac, cc, Ah, ch, h1, hm1, hF1⟩ := h
  obtain ⟨F2, FD2, A2, c2, bs2, Fs2, mb2, n2, Ac2, cc2, Ah2, ch2, h2, hm2, hF2⟩ := k _ _ _ _ _ _ _ _ _ _ _ _ h1
  have hs := hm1.size
  refine ⟨F2, FD2, A2, c2, bs2, Fs2, mb2, n2, Ac2, cc2, Ah2, ch2, h2, hm1.trans hm2 (fun i hi hf => ?_), fun j hj => ?_⟩
  · rcases hF1 i hf with h | h
    · exact h
    · omega
  · rcases hF2 j hj with h | h
    · exact hF1 j h
    · right; omega
theorem DrvDid.below (h : DrvDid w w1 q d X F) (hb : Below w1.heap.size w1 w2) : DrvDid w w2 q d X F := h.trans (fun _ _ _ _ _ _ _ _ _ _ _ _ h1 => h1.did hb)
theorem DrvDid.ahead (hb : Below w.heap.size w w1) (h : DrvDid w1 w2 q d X F) : DrvDid w w2 q d X F := by
  obtain ⟨F2, FD2, A2, c2, bs2, Fs2, mb2, n2, Ac2, cc2, Ah2, ch2, h2, hm2, hF2⟩ := h
  have hs := hb.size
  exact ⟨F2, FD2, A2, c2, bs2, Fs2, mb2, n2, Ac2, cc2, Ah2, ch2, h2, (Mods.of_below hb F).trans hm2 (fun _ _ h => h), fun j hj => (hF2 j hj).imp id (fun h => Nat.le_trans hs h)⟩
theorem DrvDid.join {F1 : Nat → Prop} (hm1 : Mods F w w1) (hF1 : ∀ k, F1 k → F k ∨ w.heap.size ≤ k) (h : DrvDid w1 w2 q d X F1) : DrvDid w w2 q d X F := by
  obtain ⟨F2, FD2, A2, c2, bs2, Fs2, mb2, n2, Ac2, cc2, Ah2, ch2, h2, hm2, hF2⟩ := h
  have hs := hm1.size
  refine ⟨F2, FD2, A2, c2, bs2, Fs2, mb2, n2, Ac2, cc2, Ah2, ch2, h2, hm1.trans hm2 (fun i hi hf => ?_), fun j hj => ?_⟩
  · rcases hF1 i hf with h | h
    · exact h
    · omega
  · rcases hF2 j hj with h | h
    · exact hF1 j h
    · right; omega
/-- A block stands behind a drive's step. -/
theorem DrvDid.box {g : Nat} {T : TypeId} {cs : Array Value} (hb : Blk w g T cs) (hd : DrvDid w w' q d X F) (hg : ¬ F g) : Blk w' g T cs := by
  obtain ⟨F2, FD2, A2, c2, bs2, Fs2, mb2, n2, Ac2, cc2, Ah2, ch2, h2, hm2, hF2⟩ := hd
  exact hb.mods hm2 hg
theorem DrvDid.mods (hd : DrvDid w w' q d X F) : Mods F w w' := by
  obtain ⟨F2, FD2, A2, c2, bs2, Fs2, mb2, n2, Ac2, cc2, Ah2, ch2, h2, hm2, hF2⟩ := hd
  exact hm2
/-- The device took a step. -/
theorem DrvIs.devTurn (h : DrvIs w q d X F FD A c bs Fs mb n Ac cc Ah ch) {D' : Dv} (hd : DDid w w' d D' FD A c bs) : ∃ F' FD' Fs', DrvIs w' q d { X with D := D' } F' FD' A c bs Fs' mb n Ac cc Ah ch ∧ Mods F w w' ∧ ∀ k, F' k → F k ∨ w.heap.size ≤ k := by
  obtain ⟨FD', Fs', h', hm, hFD⟩ := hd
  have hlt := h.lt
  have hlt' := h'.lt
  have hs := hm.size
  have hmF : Mods F w w' := hm.mono (fun k _ hk => h.inF.2.2.1 k hk)
  have hq := hlt q h.inF.1
  have hmb := hlt mb h.inF.2.1
  have no : ∀ g, g < w.heap.size → ¬ FD g → ¬ FD' g := fun g hg hn hf => by
    rcases hFD g hf with h1 | h1
    · exact hn h1
    · omega
  refine ⟨fun k => F k ∨ (w.heap.size ≤ k ∧ FD' k), FD', Fs', ⟨h.blk.mods hm h.noD.1, h', own_mods h.com hm (fun g hg => (h.noC g (by rwa [own_blkOf] at hg)).2.2), own_mods h.hap hm (fun g hg => (h.noH g (by rwa [own_blkOf] at hg)).2.2), h.map.mods hm h.noD.2.1, h.cnt, ?_, ?_, ?_, ?_, h.noCH, ?_⟩, hmF, fun k hk => hk.imp id (·.1)⟩
  · refine ⟨.inl h.inF.1, .inl h.inF.2.1, fun k hk => ?_, fun g hg => .inl (h.inF.2.2.2.1 g hg), fun g hg => .inl (h.inF.2.2.2.2 g hg)⟩
    rcases hFD k hk with h1 | h1
    · exact .inl (h.inF.2.2.1 k h1)
    · exact .inr ⟨h1, hk⟩
  · exact ⟨no q hq h.noD.1, no mb hmb h.noD.2.1, h.noD.2.2⟩
  · exact fun g hg => ⟨(h.noC g hg).1, (h.noC g hg).2.1, no g (hlt g (h.inF.2.2.2.1 g hg)) (h.noC g hg).2.2⟩
  · exact fun g hg => ⟨(h.noH g hg).1, (h.noH g hg).2.1, no g (hlt g (h.inF.2.2.2.2 g hg)) (h.noH g hg).2.2⟩
  · rintro k (hk | hk)
    · have := hlt k hk; omega
    · exact hlt' k hk.2
theorem DrvIs.devStep (h : DrvIs w q d X F FD A c bs Fs mb n Ac cc Ah ch) {D' : Dv} (hd : DDid w w' d D' FD A c bs) : DrvDid w w' q d { X with D := D' } F := by
  obtain ⟨F', FD', Fs', h1, h2, h3⟩ := h.devTurn hd
  exact ⟨F', FD', A, c, bs, Fs', mb, n, Ac, cc, Ah, ch, h1, h2, h3⟩
/-- The map took a step. -/
theorem DrvIs.mapStep (h : DrvIs w q d X F FD A c bs Fs mb n Ac cc Ah ch) {n' : Nat} {M' : Marks} (hM : MapIs w' mb n' M') (hn : n' ≤ X.happened.length) (hm : Mods (fun k => k = mb) w w') : DrvDid w w' q d { X with marks := M' } F := by
  refine ⟨F, FD, A, c, bs, Fs, mb, n', Ac, cc, Ah, ch, ⟨h.blk.mods hm h.noD.2.2, h.dev.mods hm (fun k hk e => h.noD.2.1 (e ▸ hk)), own_mods h.com hm (fun g hg => (h.noC g (by rwa [own_blkOf] at hg)).2.1), own_mods h.hap hm (fun g hg => (h.noH g (by rwa [own_blkOf] at hg)).2.1), hM, hn, h.inF, h.noD, h.noC, h.noH, h.noCH, fun k hk => Nat.lt_of_lt_of_le (h.lt k hk) hm.size⟩, hm.mono (fun k _ e => e ▸ h.inF.2.1), fun _ hk => .inl hk⟩
/-- The row of what is to come is turned or laid anew, then named in the drive's block. -/
theorem DrvIs.comStep (h : DrvIs w q d X F FD A c bs Fs mb n Ac cc Ah ch) {L : List EvV} {Ac' : Option Addr} {cc' : Nat} (hown : w'.ownsRow 0 66 68 (.slice Ac' L.length cc') L.length (L.flatMap EvV.cells)) (hm : Mods (fun k => blkOf Ac = some k) w w')
    (hat : ∀ g, blkOf Ac' = some g → blkOf Ac = some g ∨ w.heap.size ≤ g) : DrvDid w (w'.setCell ⟨q, 1, none⟩ (.slice Ac' L.length cc')) q d { X with coming := L } F := by
  have hlt := h.lt
  have hs := hm.size
  have hq := hlt q h.inF.1
  have hmb := hlt mb h.inF.2.1
  have hm2 : Mods (fun k => k = q) w' (w'.setCell ⟨q, 1, none⟩ (.slice Ac' L.length cc')) := (Mods.refl (fun k => k = q) w').setCell (p := ⟨q, 1, none⟩) (.inl rfl) _
  have nq : ∀ g, blkOf Ac' = some g → g ≠ q ∧ g ≠ mb ∧ ¬ FD g := fun g hg => by
    rcases hat g hg with h1 | h1
    · exact h.noC g h1
    · exact ⟨by omega, by omega, fun hf => by have := hlt g (h.inF.2.2.1 g hf); omega⟩
  have hmm : Mods (fun k => F k) w (w'.setCell ⟨q, 1, none⟩ (.slice Ac' L.length cc')) := (hm.mono (fun k _ hk => h.inF.2.2.2.1 k hk)).trans hm2 (fun k _ e => e ▸ h.inF.1)
  have hb : Blk w' q 121 #[ptr d, .slice Ac X.coming.length cc, .slice Ah X.happened.length ch, .map (some mb)] := h.blk.mods hm (fun e => (h.noC q e).1 rfl)
  refine ⟨fun k => F k ∨ (blkOf Ac' = some k), FD, A, c, bs, Fs, mb, n, Ac', cc', Ah, ch, ⟨?_, ?_, ?_, ?_, ?_, h.cnt, ?_, h.noD, nq, h.noH, ?_, ?_⟩, hmm, ?_⟩
  · have := hb.set_ 1 (.slice Ac' L.length cc')
    simpa using this
  · exact (h.dev.mods hm (fun k hk e => (h.noC k e).2.2 hk)).mods hm2 (fun k hk e => h.noD.1 (e ▸ hk))
  · exact own_mods hown hm2 (fun g hg e => (nq g (by rwa [own_blkOf] at hg)).1 e)
  · exact own_mods (own_mods h.hap hm (fun g hg e => h.noCH g e (by rwa [own_blkOf] at hg))) hm2 (fun g hg e => (h.noH g (by rwa [own_blkOf] at hg)).1 e)
  · exact (h.map.mods hm (fun e => (h.noC mb e).2.1 rfl)).mods hm2 (fun e => h.noD.2.2 e.symm)
  · exact ⟨.inl h.inF.1, .inl h.inF.2.1, fun k hk => .inl (h.inF.2.2.1 k hk), fun g hg => .inr hg, fun g hg => .inl (h.inF.2.2.2.2 g hg)⟩
  · intro g hg e
    rcases hat g hg with h1 | h1
    · exact h.noCH g h1 e
    · have := hlt g (h.inF.2.2.2.2 g e); omega
  · rintro k (hk | hk)
    · have := hlt k hk; have := hm2.size; omega
    · have := own_lt hown k (by rw [own_blkOf]; exact hk)
      have := hm2.size
      omega
  · rintro k (hk | hk)
    · exact .inl hk
    · rcases hat k hk with h1 | h1
      · exact .inl (h.inF.2.2.2.1 k h1)
      · exact .inr h1
/-- The row of what happened is turned or laid anew, then named in the drive's block. -/
theorem DrvIs.hapTurn (h : DrvIs w q d X F FD A c bs Fs mb n Ac cc Ah ch) {L : List EvV} {Ah' : Option Addr} {ch' : Nat} (hL : X.happened.length ≤ L.length) (hown : w'.ownsRow 0 66 68 (.slice Ah' L.length ch') L.length (L.flatMap EvV.cells)) (hm : Mods (fun k => blkOf Ah = some k) w w')
    (hat : ∀ g, blkOf Ah' = some g → blkOf Ah = some g ∨ w.heap.size ≤ g) : ∃ F', DrvIs (w'.setCell ⟨q, 2, none⟩ (.slice Ah' L.length ch')) q d { X with happened := L } F' FD A c bs Fs mb n Ac cc Ah' ch' ∧ Mods F w (w'.setCell ⟨q, 2, none⟩ (.slice Ah' L.length ch')) ∧ ∀ k, F' k → F k ∨ w.heap.size ≤ k := by
  have hlt := h.lt
  have hs := hm.size
  have hq := hlt q h.inF.1
  have hmb := hlt mb h.inF.2.1
  have hm2 : Mods (fun k => k = q) w' (w'.setCell ⟨q, 2, none⟩ (.slice Ah' L.length ch')) := (Mods.refl (fun k => k = q) w').setCell (p := ⟨q, 2, none⟩) (.inl rfl) _
  have nq : ∀ g, blkOf Ah' = some g → g ≠ q ∧ g ≠ mb ∧ ¬ FD g := fun g hg => by
    rcases hat g hg with h1 | h1
    · exact h.noH g h1
    · exact ⟨by omega, by omega, fun hf => by have := hlt g (h.inF.2.2.1 g hf); omega⟩
  have hmm : Mods (fun k => F k) w (w'.setCell ⟨q, 2, none⟩ (.slice Ah' L.length ch')) := (hm.mono (fun k _ hk => h.inF.2.2.2.2 k hk)).trans hm2 (fun k _ e => e ▸ h.inF.1)
  have hb : Blk w' q 121 #[ptr d, .slice Ac X.coming.length cc, .slice Ah X.happened.length ch, .map (some mb)] := h.blk.mods hm (fun e => (h.noH q e).1 rfl)
  refine ⟨fun k => F k ∨ (blkOf Ah' = some k), ⟨?_, ?_, ?_, ?_, ?_, Nat.le_trans h.cnt hL, ?_, h.noD, h.noC, nq, ?_, ?_⟩, hmm, ?_⟩
  · have := hb.set_ 2 (.slice Ah' L.length ch')
    simpa using this
  · exact (h.dev.mods hm (fun k hk e => (h.noH k e).2.2 hk)).mods hm2 (fun k hk e => h.noD.1 (e ▸ hk))
  · exact own_mods (own_mods h.com hm (fun g hg e => h.noCH g (by rwa [own_blkOf] at hg) e)) hm2 (fun g hg e => (h.noC g (by rwa [own_blkOf] at hg)).1 e)
  · exact own_mods hown hm2 (fun g hg e => (nq g (by rwa [own_blkOf] at hg)).1 e)
  · exact (h.map.mods hm (fun e => (h.noH mb e).2.1 rfl)).mods hm2 (fun e => h.noD.2.2 e.symm)
  · exact ⟨.inl h.inF.1, .inl h.inF.2.1, fun k hk => .inl (h.inF.2.2.1 k hk), fun g hg => .inl (h.inF.2.2.2.1 g hg), fun g hg => .inr hg⟩
  · intro g hg e
    rcases hat g e with h1 | h1
    · exact h.noCH g hg h1
    · have := hlt g (h.inF.2.2.2.1 g hg); omega
  · rintro k (hk | hk)
    · have := hlt k hk; have := hm2.size; omega
    · have := own_lt hown k (by rw [own_blkOf]; exact hk)
      have := hm2.size
      omega
  · rintro k (hk | hk)
    · exact .inl hk
    · rcases hat k hk with h1 | h1
      · exact .inl (h.inF.2.2.2.2 k h1)
      · exact .inr h1
theorem DrvIs.cells (h : DrvIs w q d X F FD A c bs Fs mb n Ac cc Ah ch) : w.cell? ⟨q, 0, none⟩ = some (.pointer (some ⟨d, 0, none⟩)) ∧ w.cell? ⟨q, 1, none⟩ = some (.slice Ac X.coming.length cc) ∧ w.cell? ⟨q, 2, none⟩ = some (.slice Ah X.happened.length ch) ∧ w.cell? ⟨q, 3, none⟩ = some (.map (some mb)) ∧ w.frozen? ⟨q, 1, none⟩ = false ∧ w.frozen? ⟨q, 2, none⟩ = false :=
  ⟨h.blk.cell 0, h.blk.cell 1, h.blk.cell 2, h.blk.cell 3, h.blk.frozen 1, h.blk.frozen 2⟩
end
end Go.Proofs.Ytdinbhanekpjoaa
