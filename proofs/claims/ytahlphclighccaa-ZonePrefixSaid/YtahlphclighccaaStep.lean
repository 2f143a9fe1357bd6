/-
  step (revetmentlaw06): both, the zone and the document's, take one step and answer alike.
-/
import Derived.Test.YtahlphclighccaaChg
namespace Go.Proofs.Ytahlphclighccaa
open Go.RowKit

/-- The plain step. -/
def stepZ (z : Zn Int) (k x y : Int) : Zn Int :=
  if k = 1 then (z.append x).1 else if k = 3 then z.reset.1 else if k = 4 then z.finish.1 else if k = 5 then z.flush
  else if k = 6 then z.crash x else if k = 7 then z.fail x else if k = 8 then (z.change (xor64 · y) x).1 else z

/-- The zone at block b, and the document's zone; they share no block. -/
structure Both (w : World) (b : Nat) (z : Zn Int) (A : Option Addr) (c : Nat) (u : Zn Int) (F G : Nat → Prop) : Prop where
  zone : ZI.At w b z F
  ref : R06.At w A c u G
  apart : ∀ k, F k → ¬ G k
  old : ∀ k, G k → k < w.heap.size

/-- What a step hands back. -/
def Stepped (w : World) (F G : Nat → Prop) (b : Nat) (z u : Zn Int) (bv : Bool) (e : Ending) (w' : World) : Prop :=
  ∃ A c, e = .returned (.tuple #[.agg #[.slice A u.L.length c, .int .i64 u.size, .int .i64 (u.safe : Int), .int .i64 u.state, .bool u.fin], .bool bv]) ∧ ∃ F' G' : Nat → Prop, Both w' b z A c u F' G' ∧ Mods F w w' ∧ (∀ k, F' k → F k ∨ w.heap.size ≤ k) ∧ (∀ k, G' k → G k ∨ w.heap.size ≤ k)

section
variable {w w0 w1 w2 w3 : World} {b c c' : Nat} {A A' : Option Addr} {z z' u u' : Zn Int} {bv : Bool} {F G : Nat → Prop}
theorem Both.lt (h : Both w b z A c u F G) : ∀ k, F k → k < w.heap.size := by
  obtain ⟨_, _, _, _, _, _, hl⟩ := h.zone
  exact hl
/-- Both, with blocks laid behind. -/
theorem Both.below (h : Both w b z A c u F G) (hb : Below w.heap.size w w0) : Both w0 b z A c u F G :=
  ⟨h.zone.mods (Mods.of_below hb (fun _ => False)) (fun _ _ h => h), h.ref.below hb, h.apart, fun k hk => Nat.lt_of_lt_of_le (h.old k hk) hb.size⟩
/-- The zone has taken its step, then the document's its own; then cells of new blocks were written. -/
theorem Stepped.mk' (h : Both w b z A c u F G) (hb : Below w.heap.size w w0) (hz : ZI.Does w0 w1 b z' F) (hr : R06.At w2 A' c' u' (fun k => G k ∨ w1.heap.size ≤ k)) (hb2 : Below w1.heap.size w1 w2)
    (hm3 : Mods (fun k => w.heap.size ≤ k ∧ k < w0.heap.size) w2 w3) : Stepped w F G b z' u' bv (.returned (.tuple #[.agg #[.slice A' u'.L.length c', .int .i64 u'.size, .int .i64 (u'.safe : Int), .int .i64 u'.state, .bool u'.fin], .bool bv])) w3 := by
  obtain ⟨F', hat, hmod, hF'⟩ := hz
  have hlt' : ∀ k, F' k → k < w1.heap.size := by obtain ⟨_, _, _, _, _, _, hl⟩ := hat; exact hl
  have hs1 := hmod.size
  have hs0 := hb.size
  have hs2 := hb2.size
  have hs3 := hm3.size
  refine ⟨A', c', rfl, F', fun k => (G k ∨ w1.heap.size ≤ k) ∧ k < w2.heap.size, ⟨?_, ?_, ?_, ?_⟩, ?_, ?_, ?_⟩
  · refine (hat.mods (Mods.of_below hb2 (fun _ => False)) (fun _ _ h => h)).mods hm3 (fun k hk hk2 => ?_)
    rcases hF' k hk with h1 | h1
    · have := h.lt k h1; omega
    · omega
  · refine (hr.mono (fun k hk hk2 => ⟨hk, hk2⟩)).mods hm3 (fun k hk _ hk2 => ?_)
    rcases hk.1 with h1 | h1
    · have := h.old k h1; omega
    · omega
  · rintro k hk ⟨h1 | h1, _⟩
    · rcases hF' k hk with h2 | h2
      · exact h.apart k h2 h1
      · have := h.old k h1; omega
    · have := hlt' k hk; omega
  · rintro k ⟨_, hk⟩; omega
  · refine (((Mods.of_below hb F).trans hmod (fun _ _ h => h)).trans (Mods.of_below hb2 F) (fun _ _ h => h)).trans hm3 (fun k hk hk2 => by omega)
  · intro k hk
    rcases hF' k hk with h1 | h1
    · exact .inl h1
    · right; omega
  · rintro k ⟨h1 | h1, _⟩
    · exact .inl h1
    · right; omega
end

/-- The boxes of a step stand behind the zone's own step. -/
theorem boxes {w w0 w1 : World} {b g : Nat} {T : TypeId} {cs : Array Value} {z' : Zn Int} {F : Nat → Prop} (hb : Blk w0 g T cs) (hz : ZI.Does w0 w1 b z' F) (hF : ∀ k, F k → k < w.heap.size) (hg : w.heap.size ≤ g) : Blk w1 g T cs := by
  obtain ⟨_, _, hm, _⟩ := hz
  exact hb.mods hm (fun h => by have := hF g h; omega)
theorem refThen {w0 w1 : World} {b c : Nat} {A : Option Addr} {z z' u : Zn Int} {F G : Nat → Prop} (h : Both w0 b z A c u F G) (hz : ZI.Does w0 w1 b z' F) : R06.At w1 A c u G := by
  obtain ⟨_, _, hm, _⟩ := hz
  exact h.ref.mods hm (fun k hk _ hf => h.apart k hf hk)
/-- What is handed back: a struct of five cells that lies in a block, and a slot. -/
theorem res2 (tmps : Array Value) (w : World) (i j g : Nat) {v0 v1 v2 v3 v4 : Value} (h : tmps.getD i undef = .pointer (some ⟨g, 0, none⟩)) (hB : Blk w g 49 #[v0, v1, v2, v3, v4]) (fn : Func) (hr : fn.results = #[.cell i 49, .tmp j]) :
    (results fn tmps).run Try.prog w = .ok (.tuple #[.agg #[v0, v1, v2, v3, v4], tmps.getD j undef]) w := by
  obtain ⟨k0, k1, k2, k3, k4, _⟩ := hB.five
  simp only [Array.getD_eq_getD_getElem?] at h ⊢
  simp [results, hr, go_sem, h, k0, k1, k2, k3, k4]
theorem Blk.behind {w w' : World} {g : Nat} {T : TypeId} {cs : Array Value} (h : Blk w g T cs) (hb : Below w.heap.size w w') : Blk w' g T cs := (hb.block g h.lt).trans h

/-- The document's zone has taken its step, then the zone. -/
theorem Stepped.mk2 {w w0 w2 W w4 : World} {b c c' g : Nat} {A A' : Option Addr} {z z' u u' : Zn Int} {bv : Bool} {F G : Nat → Prop} (h : Both w b z A c u F G) (hb : Below w.heap.size w w0) (hr : R06.At w2 A' c' u' (fun k => G k ∨ w0.heap.size ≤ k)) (hb2 : Below w0.heap.size w0 w2)
    (hbW : Below w2.heap.size w2 W) (hz : ZI.Does W.drew w4 b z' F) (hg : w.heap.size ≤ g ∧ g < w0.heap.size) (v0 v1 v2 v3 v4 : Value) :
    Stepped w F G b z' u' bv (.returned (.tuple #[.agg #[.slice A' u'.L.length c', .int .i64 u'.size, .int .i64 (u'.safe : Int), .int .i64 u'.state, .bool u'.fin], .bool bv])) (((((w4.setCell ⟨g, 0, none⟩ v0).setCell ⟨g, 1, none⟩ v1).setCell ⟨g, 2, none⟩ v2).setCell ⟨g, 3, none⟩ v3).setCell ⟨g, 4, none⟩ v4) := by
  have hm := Mods.set5 (fun k => k = g) w4 g v0 v1 v2 v3 v4 rfl
  obtain ⟨F', hat, hmod, hF'⟩ := hz
  have hmod' : Mods F W w4 := ⟨hmod.os, hmod.tape, hmod.output, hmod.size, hmod.block⟩
  have hlt' : ∀ k, F' k → k < w4.heap.size := by obtain ⟨_, _, _, _, _, _, hl⟩ := hat; exact hl
  have hs0 := hb.size
  have hs2 := hb2.size
  have hsW := hbW.size
  have hs4 := hmod'.size
  have hs5 := hm.size
  have hF'' : ∀ k, F' k → F k ∨ W.heap.size ≤ k := hF'
  have hra : R06.At w4 A' c' u' (fun k => (G k ∨ w0.heap.size ≤ k) ∧ k < w2.heap.size) := ((hr.mono (fun k hk hk2 => ⟨hk, hk2⟩)).below hbW).mods hmod' (fun k hk _ hf => by
    rcases hk.1 with h1 | h1
    · exact h.apart k hf h1
    · have := h.lt k hf; omega)
  refine ⟨A', c', rfl, F', fun k => (G k ∨ w0.heap.size ≤ k) ∧ k < w2.heap.size, ⟨?_, ?_, ?_, ?_⟩, ?_, ?_, ?_⟩
  · refine hat.mods hm (fun k hk e => ?_)
    rcases hF'' k hk with h1 | h1
    · have := h.lt k h1; omega
    · omega
  · refine hra.mods hm (fun k hk _ e => ?_)
    rcases hk.1 with h1 | h1
    · have := h.old k h1; omega
    · omega
  · rintro k hk ⟨h1 | h1, h3⟩
    · rcases hF'' k hk with h2 | h2
      · exact h.apart k h2 h1
      · have := h.old k h1; omega
    · rcases hF'' k hk with h2 | h2
      · have := h.lt k h2; omega
      · omega
  · rintro k ⟨_, hk⟩; omega
  · exact ((((Mods.of_below hb F).trans (Mods.of_below hb2 F) (fun _ _ h => h)).trans (Mods.of_below hbW F) (fun _ _ h => h)).trans hmod' (fun _ _ h => h)).trans hm (fun k hk e => by omega)
  · intro k hk
    rcases hF'' k hk with h1 | h1
    · exact .inl h1
    · right; omega
  · rintro k ⟨h1 | h1, _⟩
    · exact .inl h1
    · right; omega

/-- A step that turns neither. -/
theorem Stepped.same {w w2 : World} {b c : Nat} {A : Option Addr} {z u : Zn Int} {bv : Bool} {F G : Nat → Prop} {g : Nat} (h : Both w b z A c u F G) (hb : Below w.heap.size w w2) (h2 : Both w2 b z A c u F G) (v0 v1 v2 v3 v4 : Value)
    (hF : ∀ k, F k → k ≠ g) (hG : ∀ k, G k → k ≠ g) (hge : w.heap.size ≤ g) :
    Stepped w F G b z u bv (.returned (.tuple #[.agg #[.slice A u.L.length c, .int .i64 u.size, .int .i64 (u.safe : Int), .int .i64 u.state, .bool u.fin], .bool bv])) (((((w2.setCell ⟨g, 0, none⟩ v0).setCell ⟨g, 1, none⟩ v1).setCell ⟨g, 2, none⟩ v2).setCell ⟨g, 3, none⟩ v3).setCell ⟨g, 4, none⟩ v4) := by
  have hm := Mods.set5 (fun k => k = g) w2 g v0 v1 v2 v3 v4 rfl
  exact ⟨A, c, rfl, F, G, ⟨h2.zone.mods hm hF, h2.ref.mods hm (fun k hk _ => hG k hk), h.apart, fun k hk => Nat.lt_of_lt_of_le (h2.old k hk) hm.size⟩,
    (Mods.of_below hb F).trans hm (fun k hk e => by omega), fun k hk => .inl hk, fun k hk => .inl hk⟩

set_option maxRecDepth 100000 in
set_option maxHeartbeats 2000000 in
theorem step_append (z u : Zn Int) (x y : Int) (b : Nat) (A : Option Addr) (c : Nat) (w : World) (F G : Nat → Prop) (h : Both w b z A c u F G) (_hn : z.L.length < 65536) (_hnu : u.L.length < 65536) (_hs : z.safe ≤ z.L.length) (_hsu : u.safe ≤ u.L.length) (_h4u : u.state ≤ 4) :
    Calls Try.prog 24 #[.pointer (some ⟨b, 0, none⟩), .agg #[.slice A u.L.length c, .int .i64 u.size, .int .i64 (u.safe : Int), .int .i64 u.state, .bool u.fin], .agg #[.int .i64 1, .int .i64 x, .int .i64 y]] w (Stepped w F G b (z.append x).1 (u.append x).1 ((z.append x).2.1 == (u.append x).2.1 && (z.append x).2.2 == (u.append x).2.2)) := by
  have hlt := h.lt
  go_enter Try.func24, Try.ntmps24
  go_upto_region 1 with (fail)
  go_cut [25] (fun v wx => v = .int .i64 1 ∧ Blk wx w.heap.size 49 #[.slice A u.L.length c, .int .i64 u.size, .int .i64 (u.safe : Int), .int .i64 u.state, .bool u.fin] ∧ Blk wx (w.heap.size + 1) 41 #[.int .i64 1, .int .i64 x, .int .i64 y] ∧
    Blk wx (w.heap.size + 1 + 1) 49 #[.slice none 0 0, .int .i64 0, .int .i64 0, .int .i64 0, .bool false] ∧ Below w.heap.size w wx ∧ w.heap.size + 3 ≤ wx.heap.size)
  case first =>
    go_wp2_with fail
    go_meet
    refine ⟨rfl, ((Blk.new w _ _).alloc _).alloc _, ?_, ?_, (((Below.refl _ w).alloc (by simp) _).alloc (by simp) _).alloc (by simp; omega) _, by simp⟩
    · have := Blk.new (w.alloc (.cells #[.slice A u.L.length c, .int .i64 u.size, .int .i64 (u.safe : Int), .int .i64 u.state, .bool u.fin] 49)) 41 #[.int .i64 1, .int .i64 x, .int .i64 y]
      rw [World.size_alloc] at this
      exact this.alloc _
    · have := Blk.new ((w.alloc (.cells #[.slice A u.L.length c, .int .i64 u.size, .int .i64 (u.safe : Int), .int .i64 u.state, .bool u.fin] 49)).alloc (.cells #[.int .i64 1, .int .i64 x, .int .i64 y] 41)) 49 #[.slice none 0 0, .int .i64 0, .int .i64 0, .int .i64 0, .bool false]
      rw [World.size_alloc, World.size_alloc] at this
      exact this
  case rest =>
    obtain ⟨rfl, hb0, hb1, hb2, hbel, hsz⟩ := hcut
    have hB := h.below hbel
    obtain ⟨k0, k1, k2, k3, k4, f0, f1, f2, f3, f4⟩ := hb0.five
    obtain ⟨l0, l1, l2, e0, e1, e2⟩ := hb1.three
    obtain ⟨m0, m1, m2, m3, m4, g0, g1, g2, g3, g4⟩ := hb2.five
    go_wp2_with fail
    refine (ZI.append_any z x b wc F hB.zone _hn).mono ?_
    rintro e w1 ⟨rfl, hd⟩
    clear k0 k1 k2 k3 k4 f0 f1 f2 f3 f4 l0 l1 l2 e0 e1 e2 m0 m1 m2 m3 m4 g0 g1 g2 g3 g4
    have hb0 := boxes hb0 hd hlt (by omega)
    have hb1 := boxes hb1 hd hlt (by omega)
    have hb2 := boxes hb2 hd hlt (by omega)
    have hr1 := refThen hB hd
    have hs1 : wc.heap.size ≤ w1.heap.size := by obtain ⟨_, _, hm, _⟩ := hd; exact hm.size
    have Hd := hide hd
    clear hd
    obtain ⟨k0, k1, k2, k3, k4, f0, f1, f2, f3, f4⟩ := hb0.five
    obtain ⟨l0, l1, l2, e0, e1, e2⟩ := hb1.three
    obtain ⟨m0, m1, m2, m3, m4, g0, g1, g2, g3, g4⟩ := hb2.five
    go_wp2_with fail
    refine (R06.append_any u x A c w1 G hr1 _hnu).mono ?_
    rintro e w2 ⟨A2, c2, rfl, hr2, hbel2⟩
    clear k0 k1 k2 k3 k4 f0 f1 f2 f3 f4 l0 l1 l2 e0 e1 e2 m0 m1 m2 m3 m4 g0 g1 g2 g3 g4
    have hb0 := hb0.behind hbel2
    have hb1 := hb1.behind hbel2
    have hb2 := hb2.behind hbel2
    have hs2 := hbel2.size
    have hn0 : w.heap.size < w2.heap.size := by omega
    have hn1 : w.heap.size + 1 < w2.heap.size := by omega
    have hn2 : w.heap.size + 1 + 1 < w2.heap.size := by omega
    obtain ⟨k0, k1, k2, k3, k4, f0, f1, f2, f3, f4⟩ := hb0.five
    obtain ⟨l0, l1, l2, e0, e1, e2⟩ := hb1.three
    obtain ⟨m0, m1, m2, m3, m4, g0, g1, g2, g3, g4⟩ := hb2.five
    clear hb0 hb1
    by_cases q : ((z.append x).2.1 == (u.append x).2.1) = true
    · have hbv := hide (show (((z.append x).2.1 == (u.append x).2.1 && (z.append x).2.2 == (u.append x).2.2)) = ((z.append x).2.2 == (u.append x).2.2) by rw [q]; rfl)
      go_wp2_with fail
      refine bodyPost_ret (res2 _ _ 6 7 _ rfl (by first | with_reducible exact hb2.set5 _ _ _ _ _ | with_reducible exact (hb2.set5 _ _ _ _ _).alloc _) _ rfl) rfl ?_
      rw [hbv.out]
      refine Stepped.mk' h hbel Hd.out hr2 hbel2 ?_
      have hmem : (fun k => w.heap.size ≤ k ∧ k < wc.heap.size) (w.heap.size + 1 + 1) := ⟨by omega, by omega⟩
      first | with_reducible exact Mods.set5 _ _ _ _ _ _ _ _ hmem | with_reducible exact (Mods.set5 _ _ _ _ _ _ _ _ hmem).alloc _
    · rw [Bool.not_eq_true] at q
      have hbv := hide (show (((z.append x).2.1 == (u.append x).2.1 && (z.append x).2.2 == (u.append x).2.2)) = false by rw [q]; rfl)
      go_wp2_with fail
      refine bodyPost_ret (res2 _ _ 6 7 _ rfl (by first | with_reducible exact hb2.set5 _ _ _ _ _ | with_reducible exact (hb2.set5 _ _ _ _ _).alloc _) _ rfl) rfl ?_
      rw [hbv.out]
      refine Stepped.mk' h hbel Hd.out hr2 hbel2 ?_
      have hmem : (fun k => w.heap.size ≤ k ∧ k < wc.heap.size) (w.heap.size + 1 + 1) := ⟨by omega, by omega⟩
      first | with_reducible exact Mods.set5 _ _ _ _ _ _ _ _ hmem | with_reducible exact (Mods.set5 _ _ _ _ _ _ _ _ hmem).alloc _

set_option maxRecDepth 100000 in
set_option maxHeartbeats 2000000 in
theorem step_read (z u : Zn Int) (x y : Int) (b : Nat) (A : Option Addr) (c : Nat) (w : World) (F G : Nat → Prop) (h : Both w b z A c u F G) (_hn : z.L.length < 65536) (_hnu : u.L.length < 65536) (_hs : z.safe ≤ z.L.length) (_hsu : u.safe ≤ u.L.length) (_h4u : u.state ≤ 4) :
    Calls Try.prog 24 #[.pointer (some ⟨b, 0, none⟩), .agg #[.slice A u.L.length c, .int .i64 u.size, .int .i64 (u.safe : Int), .int .i64 u.state, .bool u.fin], .agg #[.int .i64 2, .int .i64 x, .int .i64 y]] w (Stepped w F G b z u ((z.read 0 x).1 == (u.read 0 x).1 && (z.read 0 x).2 == (u.read 0 x).2)) := by
  have hlt := h.lt
  go_enter Try.func24, Try.ntmps24
  go_upto_region 1 with (fail)
  go_cut [25] (fun v wx => v = .int .i64 2 ∧ Blk wx w.heap.size 49 #[.slice A u.L.length c, .int .i64 u.size, .int .i64 (u.safe : Int), .int .i64 u.state, .bool u.fin] ∧ Blk wx (w.heap.size + 1) 41 #[.int .i64 2, .int .i64 x, .int .i64 y] ∧
    Blk wx (w.heap.size + 1 + 1) 49 #[.slice none 0 0, .int .i64 0, .int .i64 0, .int .i64 0, .bool false] ∧ Below w.heap.size w wx ∧ w.heap.size + 3 ≤ wx.heap.size)
  case first =>
    go_wp2_with fail
    go_meet
    refine ⟨rfl, ((Blk.new w _ _).alloc _).alloc _, ?_, ?_, (((Below.refl _ w).alloc (by simp) _).alloc (by simp) _).alloc (by simp; omega) _, by simp⟩
    · have := Blk.new (w.alloc (.cells #[.slice A u.L.length c, .int .i64 u.size, .int .i64 (u.safe : Int), .int .i64 u.state, .bool u.fin] 49)) 41 #[.int .i64 2, .int .i64 x, .int .i64 y]
      rw [World.size_alloc] at this
      exact this.alloc _
    · have := Blk.new ((w.alloc (.cells #[.slice A u.L.length c, .int .i64 u.size, .int .i64 (u.safe : Int), .int .i64 u.state, .bool u.fin] 49)).alloc (.cells #[.int .i64 2, .int .i64 x, .int .i64 y] 41)) 49 #[.slice none 0 0, .int .i64 0, .int .i64 0, .int .i64 0, .bool false]
      rw [World.size_alloc, World.size_alloc] at this
      exact this
  case rest =>
    obtain ⟨rfl, hb0, hb1, hb2, hbel, hsz⟩ := hcut
    have hB := h.below hbel
    obtain ⟨k0, k1, k2, k3, k4, f0, f1, f2, f3, f4⟩ := hb0.five
    obtain ⟨l0, l1, l2, e0, e1, e2⟩ := hb1.three
    obtain ⟨m0, m1, m2, m3, m4, g0, g1, g2, g3, g4⟩ := hb2.five
    go_wp2_with fail
    refine (ZI.read_any z x b wc F hB.zone _hn).mono ?_
    rintro e w1 ⟨rfl, rfl⟩
    go_wp2_with fail
    refine (R06.read_any u x A c wc G hB.ref _hnu).mono ?_
    rintro e w2 ⟨rfl, hbel2⟩
    clear k0 k1 k2 k3 k4 f0 f1 f2 f3 f4 l0 l1 l2 e0 e1 e2 m0 m1 m2 m3 m4 g0 g1 g2 g3 g4
    have hb0 := hb0.behind hbel2
    have hb1 := hb1.behind hbel2
    have hb2 := hb2.behind hbel2
    have hB2 := (hB.below hbel2)
    obtain ⟨k0, k1, k2, k3, k4, f0, f1, f2, f3, f4⟩ := hb0.five
    obtain ⟨l0, l1, l2, e0, e1, e2⟩ := hb1.three
    obtain ⟨m0, m1, m2, m3, m4, g0, g1, g2, g3, g4⟩ := hb2.five
    clear hb1
    by_cases q : ((z.read 0 x).1 == (u.read 0 x).1) = true
    · have hbv := hide (show (((z.read 0 x).1 == (u.read 0 x).1 && (z.read 0 x).2 == (u.read 0 x).2)) = ((z.read 0 x).2 == (u.read 0 x).2) by rw [q]; rfl)
      go_wp2_with fail
      refine bodyPost_ret (res2 _ _ 6 7 _ rfl (by with_reducible exact hb2.set5 _ _ _ _ _) _ rfl) rfl ?_
      rw [hbv.out]
      exact Stepped.same h (hbel.trans (hbel2.mono hbel.size)) hB2 _ _ _ _ _ (fun k hk => by have := h.lt k hk; omega) (fun k hk => by have := h.old k hk; omega) (by omega)
    · rw [Bool.not_eq_true] at q
      have hbv := hide (show (((z.read 0 x).1 == (u.read 0 x).1 && (z.read 0 x).2 == (u.read 0 x).2)) = false by rw [q]; rfl)
      go_wp2_with fail
      refine bodyPost_ret (res2 _ _ 6 7 _ rfl (by with_reducible exact hb2.set5 _ _ _ _ _) _ rfl) rfl ?_
      rw [hbv.out]
      exact Stepped.same h (hbel.trans (hbel2.mono hbel.size)) hB2 _ _ _ _ _ (fun k hk => by have := h.lt k hk; omega) (fun k hk => by have := h.old k hk; omega) (by omega)

set_option maxRecDepth 100000 in
set_option maxHeartbeats 2000000 in
theorem step_reset (z u : Zn Int) (x y : Int) (b : Nat) (A : Option Addr) (c : Nat) (w : World) (F G : Nat → Prop) (h : Both w b z A c u F G) (_hn : z.L.length < 65536) (_hnu : u.L.length < 65536) (_hs : z.safe ≤ z.L.length) (_hsu : u.safe ≤ u.L.length) (_h4u : u.state ≤ 4) :
    Calls Try.prog 24 #[.pointer (some ⟨b, 0, none⟩), .agg #[.slice A u.L.length c, .int .i64 u.size, .int .i64 (u.safe : Int), .int .i64 u.state, .bool u.fin], .agg #[.int .i64 3, .int .i64 x, .int .i64 y]] w (Stepped w F G b z.reset.1 u.reset.1 (z.reset.2 == u.reset.2)) := by
  have hlt := h.lt
  go_enter Try.func24, Try.ntmps24
  go_upto_region 1 with (fail)
  go_cut [25] (fun v wx => v = .int .i64 3 ∧ Blk wx w.heap.size 49 #[.slice A u.L.length c, .int .i64 u.size, .int .i64 (u.safe : Int), .int .i64 u.state, .bool u.fin] ∧ Blk wx (w.heap.size + 1) 41 #[.int .i64 3, .int .i64 x, .int .i64 y] ∧
    Blk wx (w.heap.size + 1 + 1) 49 #[.slice none 0 0, .int .i64 0, .int .i64 0, .int .i64 0, .bool false] ∧ Below w.heap.size w wx ∧ w.heap.size + 3 ≤ wx.heap.size)
  case first =>
    go_wp2_with fail
    go_meet
    refine ⟨rfl, ((Blk.new w _ _).alloc _).alloc _, ?_, ?_, (((Below.refl _ w).alloc (by simp) _).alloc (by simp) _).alloc (by simp; omega) _, by simp⟩
    · have := Blk.new (w.alloc (.cells #[.slice A u.L.length c, .int .i64 u.size, .int .i64 (u.safe : Int), .int .i64 u.state, .bool u.fin] 49)) 41 #[.int .i64 3, .int .i64 x, .int .i64 y]
      rw [World.size_alloc] at this
      exact this.alloc _
    · have := Blk.new ((w.alloc (.cells #[.slice A u.L.length c, .int .i64 u.size, .int .i64 (u.safe : Int), .int .i64 u.state, .bool u.fin] 49)).alloc (.cells #[.int .i64 3, .int .i64 x, .int .i64 y] 41)) 49 #[.slice none 0 0, .int .i64 0, .int .i64 0, .int .i64 0, .bool false]
      rw [World.size_alloc, World.size_alloc] at this
      exact this
  case rest =>
    obtain ⟨rfl, hb0, hb1, hb2, hbel, hsz⟩ := hcut
    have hB := h.below hbel
    obtain ⟨k0, k1, k2, k3, k4, f0, f1, f2, f3, f4⟩ := hb0.five
    obtain ⟨l0, l1, l2, e0, e1, e2⟩ := hb1.three
    obtain ⟨m0, m1, m2, m3, m4, g0, g1, g2, g3, g4⟩ := hb2.five
    go_wp2_with fail
    refine (R06.reset_any u A c wc G hB.ref).mono ?_
    rintro e w2 ⟨A2, c2, rfl, hr2, hbel2⟩
    clear k0 k1 k2 k3 k4 f0 f1 f2 f3 f4 l0 l1 l2 e0 e1 e2 m0 m1 m2 m3 m4 g0 g1 g2 g3 g4
    have hb0 := hb0.behind hbel2
    have hb1 := hb1.behind hbel2
    have hb2 := hb2.behind hbel2
    have hB2 := (hB.below hbel2)
    have hs2 := hbel2.size
    have hn0 : w.heap.size < w2.heap.size := by omega
    have hn1 : w.heap.size + 1 < w2.heap.size := by omega
    have hn2 : w.heap.size + 1 + 1 < w2.heap.size := by omega
    obtain ⟨k0, k1, k2, k3, k4, f0, f1, f2, f3, f4⟩ := hb0.five
    obtain ⟨l0, l1, l2, e0, e1, e2⟩ := hb1.three
    obtain ⟨m0, m1, m2, m3, m4, g0, g1, g2, g3, g4⟩ := hb2.five
    clear hb0 hb1
    go_upto_region 12 with (fail)
    obtain ⟨o, ho⟩ : ∃ o : Obj, o = .cells #[.slice A2 u.reset.1.L.length c2, .int .i64 u.reset.1.size, .int .i64 (u.reset.1.safe : Int), .int .i64 u.reset.1.state, .bool u.reset.1.fin] 49 := ⟨_, rfl⟩
    have hbo : Blk (w2.alloc o) w2.heap.size 49 #[.slice A2 u.reset.1.L.length c2, .int .i64 u.reset.1.size, .int .i64 (u.reset.1.safe : Int), .int .i64 u.reset.1.state, .bool u.reset.1.fin] := by rw [ho]; exact Blk.new _ _ _
    have hb2' : Blk (w2.alloc o) (w.heap.size + 1 + 1) 49 #[.slice none 0 0, .int .i64 0, .int .i64 0, .int .i64 0, .bool false] := hb2.alloc o
    have hzo : ZI.At (w2.alloc o).drew b z F := (hB2.zone.alloc o).drew
    rw [← ho]
    obtain ⟨W, hW⟩ : ∃ W : World, W = w2.alloc o := ⟨_, rfl⟩
    have hWs : W.heap.size = w2.heap.size + 1 := by rw [hW]; simp
    have hbW : Below w2.heap.size w2 W := by rw [hW]; exact (Below.refl _ _).alloc (Nat.le_refl _) o
    rw [← hW] at hbo hb2' hzo ⊢
    clear hW ho k0 k1 k2 k3 k4 f0 f1 f2 f3 f4 l0 l1 l2 e0 e1 e2 m0 m1 m2 m3 m4 g0 g1 g2 g3 g4 hb2
    obtain ⟨k0, k1, k2, k3, k4, f0, f1, f2, f3, f4⟩ := hbo.five
    obtain ⟨m0, m1, m2, m3, m4, g0, g1, g2, g3, g4⟩ := hb2'.five
    have Hsz := hide hWs
    clear hWs
    have q1 : ¬ (w2.heap.size = w.heap.size + 1 + 1) := by omega
    have q2 : ¬ (w.heap.size + 1 + 1 = w2.heap.size) := by omega
    have q3 : ¬ (w2.heap.size = w.heap.size + 2) := by omega
    have q4 : ¬ (w.heap.size + 2 = w2.heap.size) := by omega
    go_region_held3 (fun w' => w'.cell? ⟨w2.heap.size, 0, none⟩ = some (.slice A2 u.reset.1.L.length c2) ∧ w'.cell? ⟨w2.heap.size, 1, none⟩ = some (.int .i64 u.reset.1.size) ∧ w'.cell? ⟨w2.heap.size, 2, none⟩ = some (.int .i64 (u.reset.1.safe : Int)) ∧ w'.cell? ⟨w2.heap.size, 3, none⟩ = some (.int .i64 u.reset.1.state) ∧ w'.cell? ⟨w2.heap.size, 4, none⟩ = some (.bool u.reset.1.fin)) (go_keep)
      (first | (go_at_call 17; refine (ZI.reset_any z b _ F hzo).mono ?_; rintro e w4 ⟨rfl, hd⟩; have hb4 := boxes hbo.drew hd hlt (by omega); have hb5 := boxes hb2'.drew hd hlt (by omega); clear k0 k1 k2 k3 k4 f0 f1 f2 f3 f4 m0 m1 m2 m3 m4 g0 g1 g2 g3 g4; obtain ⟨k0, k1, k2, k3, k4, f0, f1, f2, f3, f4⟩ := hb4.five; obtain ⟨m0, m1, m2, m3, m4, g0, g1, g2, g3, g4⟩ := hb5.five))
    go_wp2_with fail
    refine bodyPost_ret (res2 _ _ 6 7 _ rfl (by with_reducible exact hb5.set5 _ _ _ _ _) _ rfl) rfl ?_
    exact Stepped.mk2 h hbel hr2 hbel2 hbW hd ⟨by omega, by omega⟩ _ _ _ _ _

set_option maxRecDepth 100000 in
set_option maxHeartbeats 2000000 in
theorem step_finish (z u : Zn Int) (x y : Int) (b : Nat) (A : Option Addr) (c : Nat) (w : World) (F G : Nat → Prop) (h : Both w b z A c u F G) (_hn : z.L.length < 65536) (_hnu : u.L.length < 65536) (_hs : z.safe ≤ z.L.length) (_hsu : u.safe ≤ u.L.length) (_h4u : u.state ≤ 4) :
    Calls Try.prog 24 #[.pointer (some ⟨b, 0, none⟩), .agg #[.slice A u.L.length c, .int .i64 u.size, .int .i64 (u.safe : Int), .int .i64 u.state, .bool u.fin], .agg #[.int .i64 4, .int .i64 x, .int .i64 y]] w (Stepped w F G b z.finish.1 u.finish.1 (z.finish.2 == u.finish.2)) := by
  have hlt := h.lt
  go_enter Try.func24, Try.ntmps24
  go_upto_region 1 with (fail)
  go_cut [25] (fun v wx => v = .int .i64 4 ∧ Blk wx w.heap.size 49 #[.slice A u.L.length c, .int .i64 u.size, .int .i64 (u.safe : Int), .int .i64 u.state, .bool u.fin] ∧ Blk wx (w.heap.size + 1) 41 #[.int .i64 4, .int .i64 x, .int .i64 y] ∧
    Blk wx (w.heap.size + 1 + 1) 49 #[.slice none 0 0, .int .i64 0, .int .i64 0, .int .i64 0, .bool false] ∧ Below w.heap.size w wx ∧ w.heap.size + 3 ≤ wx.heap.size)
  case first =>
    go_wp2_with fail
    go_meet
    refine ⟨rfl, ((Blk.new w _ _).alloc _).alloc _, ?_, ?_, (((Below.refl _ w).alloc (by simp) _).alloc (by simp) _).alloc (by simp; omega) _, by simp⟩
    · have := Blk.new (w.alloc (.cells #[.slice A u.L.length c, .int .i64 u.size, .int .i64 (u.safe : Int), .int .i64 u.state, .bool u.fin] 49)) 41 #[.int .i64 4, .int .i64 x, .int .i64 y]
      rw [World.size_alloc] at this
      exact this.alloc _
    · have := Blk.new ((w.alloc (.cells #[.slice A u.L.length c, .int .i64 u.size, .int .i64 (u.safe : Int), .int .i64 u.state, .bool u.fin] 49)).alloc (.cells #[.int .i64 4, .int .i64 x, .int .i64 y] 41)) 49 #[.slice none 0 0, .int .i64 0, .int .i64 0, .int .i64 0, .bool false]
      rw [World.size_alloc, World.size_alloc] at this
      exact this
  case rest =>
    obtain ⟨rfl, hb0, hb1, hb2, hbel, hsz⟩ := hcut
    have hB := h.below hbel
    obtain ⟨k0, k1, k2, k3, k4, f0, f1, f2, f3, f4⟩ := hb0.five
    obtain ⟨l0, l1, l2, e0, e1, e2⟩ := hb1.three
    obtain ⟨m0, m1, m2, m3, m4, g0, g1, g2, g3, g4⟩ := hb2.five
    go_wp2_with fail
    refine (R06.finish_any u A c wc G hB.ref).mono ?_
    rintro e w2 ⟨A2, c2, rfl, hr2, hbel2⟩
    clear k0 k1 k2 k3 k4 f0 f1 f2 f3 f4 l0 l1 l2 e0 e1 e2 m0 m1 m2 m3 m4 g0 g1 g2 g3 g4
    have hb0 := hb0.behind hbel2
    have hb1 := hb1.behind hbel2
    have hb2 := hb2.behind hbel2
    have hB2 := (hB.below hbel2)
    have hs2 := hbel2.size
    have hn0 : w.heap.size < w2.heap.size := by omega
    have hn1 : w.heap.size + 1 < w2.heap.size := by omega
    have hn2 : w.heap.size + 1 + 1 < w2.heap.size := by omega
    obtain ⟨k0, k1, k2, k3, k4, f0, f1, f2, f3, f4⟩ := hb0.five
    obtain ⟨l0, l1, l2, e0, e1, e2⟩ := hb1.three
    obtain ⟨m0, m1, m2, m3, m4, g0, g1, g2, g3, g4⟩ := hb2.five
    clear hb0 hb1
    go_upto_region 15 with (fail)
    obtain ⟨o, ho⟩ : ∃ o : Obj, o = .cells #[.slice A2 u.finish.1.L.length c2, .int .i64 u.finish.1.size, .int .i64 (u.finish.1.safe : Int), .int .i64 u.finish.1.state, .bool u.finish.1.fin] 49 := ⟨_, rfl⟩
    have hbo : Blk (w2.alloc o) w2.heap.size 49 #[.slice A2 u.finish.1.L.length c2, .int .i64 u.finish.1.size, .int .i64 (u.finish.1.safe : Int), .int .i64 u.finish.1.state, .bool u.finish.1.fin] := by rw [ho]; exact Blk.new _ _ _
    have hb2' : Blk (w2.alloc o) (w.heap.size + 1 + 1) 49 #[.slice none 0 0, .int .i64 0, .int .i64 0, .int .i64 0, .bool false] := hb2.alloc o
    have hzo : ZI.At (w2.alloc o).drew b z F := (hB2.zone.alloc o).drew
    rw [← ho]
    obtain ⟨W, hW⟩ : ∃ W : World, W = w2.alloc o := ⟨_, rfl⟩
    have hWs : W.heap.size = w2.heap.size + 1 := by rw [hW]; simp
    have hbW : Below w2.heap.size w2 W := by rw [hW]; exact (Below.refl _ _).alloc (Nat.le_refl _) o
    rw [← hW] at hbo hb2' hzo ⊢
    clear hW ho k0 k1 k2 k3 k4 f0 f1 f2 f3 f4 l0 l1 l2 e0 e1 e2 m0 m1 m2 m3 m4 g0 g1 g2 g3 g4 hb2
    obtain ⟨k0, k1, k2, k3, k4, f0, f1, f2, f3, f4⟩ := hbo.five
    obtain ⟨m0, m1, m2, m3, m4, g0, g1, g2, g3, g4⟩ := hb2'.five
    have Hsz := hide hWs
    clear hWs
    have q1 : ¬ (w2.heap.size = w.heap.size + 1 + 1) := by omega
    have q2 : ¬ (w.heap.size + 1 + 1 = w2.heap.size) := by omega
    have q3 : ¬ (w2.heap.size = w.heap.size + 2) := by omega
    have q4 : ¬ (w.heap.size + 2 = w2.heap.size) := by omega
    go_region_held3 (fun w' => w'.cell? ⟨w2.heap.size, 0, none⟩ = some (.slice A2 u.finish.1.L.length c2) ∧ w'.cell? ⟨w2.heap.size, 1, none⟩ = some (.int .i64 u.finish.1.size) ∧ w'.cell? ⟨w2.heap.size, 2, none⟩ = some (.int .i64 (u.finish.1.safe : Int)) ∧ w'.cell? ⟨w2.heap.size, 3, none⟩ = some (.int .i64 u.finish.1.state) ∧ w'.cell? ⟨w2.heap.size, 4, none⟩ = some (.bool u.finish.1.fin)) (go_keep)
      (first | (go_at_call 18; refine (ZI.finish_any z b _ F hzo).mono ?_; rintro e w4 ⟨rfl, hd⟩; have hb4 := boxes hbo.drew hd hlt (by omega); have hb5 := boxes hb2'.drew hd hlt (by omega); clear k0 k1 k2 k3 k4 f0 f1 f2 f3 f4 m0 m1 m2 m3 m4 g0 g1 g2 g3 g4; obtain ⟨k0, k1, k2, k3, k4, f0, f1, f2, f3, f4⟩ := hb4.five; obtain ⟨m0, m1, m2, m3, m4, g0, g1, g2, g3, g4⟩ := hb5.five))
    go_wp2_with fail
    refine bodyPost_ret (res2 _ _ 6 7 _ rfl (by with_reducible exact hb5.set5 _ _ _ _ _) _ rfl) rfl ?_
    exact Stepped.mk2 h hbel hr2 hbel2 hbW hd ⟨by omega, by omega⟩ _ _ _ _ _

set_option maxRecDepth 100000 in
set_option maxHeartbeats 2000000 in
theorem step_flush (z u : Zn Int) (x y : Int) (b : Nat) (A : Option Addr) (c : Nat) (w : World) (F G : Nat → Prop) (h : Both w b z A c u F G) (_hn : z.L.length < 65536) (_hnu : u.L.length < 65536) (_hs : z.safe ≤ z.L.length) (_hsu : u.safe ≤ u.L.length) (_h4u : u.state ≤ 4) :
    Calls Try.prog 24 #[.pointer (some ⟨b, 0, none⟩), .agg #[.slice A u.L.length c, .int .i64 u.size, .int .i64 (u.safe : Int), .int .i64 u.state, .bool u.fin], .agg #[.int .i64 5, .int .i64 x, .int .i64 y]] w (Stepped w F G b z.flush u.flush true) := by
  have hlt := h.lt
  go_enter Try.func24, Try.ntmps24
  go_upto_region 1 with (fail)
  go_cut [25] (fun v wx => v = .int .i64 5 ∧ Blk wx w.heap.size 49 #[.slice A u.L.length c, .int .i64 u.size, .int .i64 (u.safe : Int), .int .i64 u.state, .bool u.fin] ∧ Blk wx (w.heap.size + 1) 41 #[.int .i64 5, .int .i64 x, .int .i64 y] ∧
    Blk wx (w.heap.size + 1 + 1) 49 #[.slice none 0 0, .int .i64 0, .int .i64 0, .int .i64 0, .bool false] ∧ Below w.heap.size w wx ∧ w.heap.size + 3 ≤ wx.heap.size)
  case first =>
    go_wp2_with fail
    go_meet
    refine ⟨rfl, ((Blk.new w _ _).alloc _).alloc _, ?_, ?_, (((Below.refl _ w).alloc (by simp) _).alloc (by simp) _).alloc (by simp; omega) _, by simp⟩
    · have := Blk.new (w.alloc (.cells #[.slice A u.L.length c, .int .i64 u.size, .int .i64 (u.safe : Int), .int .i64 u.state, .bool u.fin] 49)) 41 #[.int .i64 5, .int .i64 x, .int .i64 y]
      rw [World.size_alloc] at this
      exact this.alloc _
    · have := Blk.new ((w.alloc (.cells #[.slice A u.L.length c, .int .i64 u.size, .int .i64 (u.safe : Int), .int .i64 u.state, .bool u.fin] 49)).alloc (.cells #[.int .i64 5, .int .i64 x, .int .i64 y] 41)) 49 #[.slice none 0 0, .int .i64 0, .int .i64 0, .int .i64 0, .bool false]
      rw [World.size_alloc, World.size_alloc] at this
      exact this
  case rest =>
    obtain ⟨rfl, hb0, hb1, hb2, hbel, hsz⟩ := hcut
    have hB := h.below hbel
    obtain ⟨k0, k1, k2, k3, k4, f0, f1, f2, f3, f4⟩ := hb0.five
    obtain ⟨l0, l1, l2, e0, e1, e2⟩ := hb1.three
    obtain ⟨m0, m1, m2, m3, m4, g0, g1, g2, g3, g4⟩ := hb2.five
    go_wp2_with fail
    refine (ZI.flush_any z b wc F hB.zone).mono ?_
    rintro e w1 ⟨rfl, hd⟩
    clear k0 k1 k2 k3 k4 f0 f1 f2 f3 f4 l0 l1 l2 e0 e1 e2 m0 m1 m2 m3 m4 g0 g1 g2 g3 g4
    have hb0 := boxes hb0 hd hlt (by omega)
    have hb1 := boxes hb1 hd hlt (by omega)
    have hb2 := boxes hb2 hd hlt (by omega)
    have hr1 := refThen hB hd
    have hs1 : wc.heap.size ≤ w1.heap.size := by obtain ⟨_, _, hm, _⟩ := hd; exact hm.size
    have Hd := hide hd
    clear hd
    obtain ⟨k0, k1, k2, k3, k4, f0, f1, f2, f3, f4⟩ := hb0.five
    obtain ⟨l0, l1, l2, e0, e1, e2⟩ := hb1.three
    obtain ⟨m0, m1, m2, m3, m4, g0, g1, g2, g3, g4⟩ := hb2.five
    go_wp2_with fail
    refine (R06.flush_any u A c w1 G hr1).mono ?_
    rintro e w2 ⟨A2, c2, rfl, hr2, hbel2⟩
    clear k0 k1 k2 k3 k4 f0 f1 f2 f3 f4 l0 l1 l2 e0 e1 e2 m0 m1 m2 m3 m4 g0 g1 g2 g3 g4
    have hb0 := hb0.behind hbel2
    have hb1 := hb1.behind hbel2
    have hb2 := hb2.behind hbel2
    have hs2 := hbel2.size
    have hn0 : w.heap.size < w2.heap.size := by omega
    have hn1 : w.heap.size + 1 < w2.heap.size := by omega
    have hn2 : w.heap.size + 1 + 1 < w2.heap.size := by omega
    obtain ⟨k0, k1, k2, k3, k4, f0, f1, f2, f3, f4⟩ := hb0.five
    obtain ⟨l0, l1, l2, e0, e1, e2⟩ := hb1.three
    obtain ⟨m0, m1, m2, m3, m4, g0, g1, g2, g3, g4⟩ := hb2.five
    clear hb0 hb1
    go_wp2_with fail
    refine bodyPost_ret (res2 _ _ 6 7 _ rfl (by first | with_reducible exact hb2.set5 _ _ _ _ _ | with_reducible exact (hb2.set5 _ _ _ _ _).alloc _) _ rfl) rfl ?_
    refine Stepped.mk' h hbel Hd.out hr2 hbel2 ?_
    have hmem : (fun k => w.heap.size ≤ k ∧ k < wc.heap.size) (w.heap.size + 1 + 1) := ⟨by omega, by omega⟩
    first | with_reducible exact Mods.set5 _ _ _ _ _ _ _ _ hmem | with_reducible exact (Mods.set5 _ _ _ _ _ _ _ _ hmem).alloc _

set_option maxRecDepth 100000 in
set_option maxHeartbeats 2000000 in
theorem step_crash (z u : Zn Int) (x y : Int) (b : Nat) (A : Option Addr) (c : Nat) (w : World) (F G : Nat → Prop) (h : Both w b z A c u F G) (_hn : z.L.length < 65536) (_hnu : u.L.length < 65536) (_hs : z.safe ≤ z.L.length) (_hsu : u.safe ≤ u.L.length) (_h4u : u.state ≤ 4) :
    Calls Try.prog 24 #[.pointer (some ⟨b, 0, none⟩), .agg #[.slice A u.L.length c, .int .i64 u.size, .int .i64 (u.safe : Int), .int .i64 u.state, .bool u.fin], .agg #[.int .i64 6, .int .i64 x, .int .i64 y]] w (Stepped w F G b (z.crash x) (u.crash x) true) := by
  have hlt := h.lt
  go_enter Try.func24, Try.ntmps24
  go_upto_region 1 with (fail)
  go_cut [25] (fun v wx => v = .int .i64 6 ∧ Blk wx w.heap.size 49 #[.slice A u.L.length c, .int .i64 u.size, .int .i64 (u.safe : Int), .int .i64 u.state, .bool u.fin] ∧ Blk wx (w.heap.size + 1) 41 #[.int .i64 6, .int .i64 x, .int .i64 y] ∧
    Blk wx (w.heap.size + 1 + 1) 49 #[.slice none 0 0, .int .i64 0, .int .i64 0, .int .i64 0, .bool false] ∧ Below w.heap.size w wx ∧ w.heap.size + 3 ≤ wx.heap.size)
  case first =>
    go_wp2_with fail
    go_meet
    refine ⟨rfl, ((Blk.new w _ _).alloc _).alloc _, ?_, ?_, (((Below.refl _ w).alloc (by simp) _).alloc (by simp) _).alloc (by simp; omega) _, by simp⟩
    · have := Blk.new (w.alloc (.cells #[.slice A u.L.length c, .int .i64 u.size, .int .i64 (u.safe : Int), .int .i64 u.state, .bool u.fin] 49)) 41 #[.int .i64 6, .int .i64 x, .int .i64 y]
      rw [World.size_alloc] at this
      exact this.alloc _
    · have := Blk.new ((w.alloc (.cells #[.slice A u.L.length c, .int .i64 u.size, .int .i64 (u.safe : Int), .int .i64 u.state, .bool u.fin] 49)).alloc (.cells #[.int .i64 6, .int .i64 x, .int .i64 y] 41)) 49 #[.slice none 0 0, .int .i64 0, .int .i64 0, .int .i64 0, .bool false]
      rw [World.size_alloc, World.size_alloc] at this
      exact this
  case rest =>
    obtain ⟨rfl, hb0, hb1, hb2, hbel, hsz⟩ := hcut
    have hB := h.below hbel
    obtain ⟨k0, k1, k2, k3, k4, f0, f1, f2, f3, f4⟩ := hb0.five
    obtain ⟨l0, l1, l2, e0, e1, e2⟩ := hb1.three
    obtain ⟨m0, m1, m2, m3, m4, g0, g1, g2, g3, g4⟩ := hb2.five
    go_wp2_with fail
    refine (ZI.crash_any z x b wc F hB.zone _hn _hs).mono ?_
    rintro e w1 ⟨rfl, hd⟩
    clear k0 k1 k2 k3 k4 f0 f1 f2 f3 f4 l0 l1 l2 e0 e1 e2 m0 m1 m2 m3 m4 g0 g1 g2 g3 g4
    have hb0 := boxes hb0 hd hlt (by omega)
    have hb1 := boxes hb1 hd hlt (by omega)
    have hb2 := boxes hb2 hd hlt (by omega)
    have hr1 := refThen hB hd
    have hs1 : wc.heap.size ≤ w1.heap.size := by obtain ⟨_, _, hm, _⟩ := hd; exact hm.size
    have Hd := hide hd
    clear hd
    obtain ⟨k0, k1, k2, k3, k4, f0, f1, f2, f3, f4⟩ := hb0.five
    obtain ⟨l0, l1, l2, e0, e1, e2⟩ := hb1.three
    obtain ⟨m0, m1, m2, m3, m4, g0, g1, g2, g3, g4⟩ := hb2.five
    go_wp2_with fail
    refine (R06.crash_any u x A c w1 G hr1 _hnu _hsu _h4u).mono ?_
    rintro e w2 ⟨A2, c2, rfl, hr2, hbel2⟩
    clear k0 k1 k2 k3 k4 f0 f1 f2 f3 f4 l0 l1 l2 e0 e1 e2 m0 m1 m2 m3 m4 g0 g1 g2 g3 g4
    have hb0 := hb0.behind hbel2
    have hb1 := hb1.behind hbel2
    have hb2 := hb2.behind hbel2
    have hs2 := hbel2.size
    have hn0 : w.heap.size < w2.heap.size := by omega
    have hn1 : w.heap.size + 1 < w2.heap.size := by omega
    have hn2 : w.heap.size + 1 + 1 < w2.heap.size := by omega
    obtain ⟨k0, k1, k2, k3, k4, f0, f1, f2, f3, f4⟩ := hb0.five
    obtain ⟨l0, l1, l2, e0, e1, e2⟩ := hb1.three
    obtain ⟨m0, m1, m2, m3, m4, g0, g1, g2, g3, g4⟩ := hb2.five
    clear hb0 hb1
    go_wp2_with fail
    refine bodyPost_ret (res2 _ _ 6 7 _ rfl (by first | with_reducible exact hb2.set5 _ _ _ _ _ | with_reducible exact (hb2.set5 _ _ _ _ _).alloc _) _ rfl) rfl ?_
    refine Stepped.mk' h hbel Hd.out hr2 hbel2 ?_
    have hmem : (fun k => w.heap.size ≤ k ∧ k < wc.heap.size) (w.heap.size + 1 + 1) := ⟨by omega, by omega⟩
    first | with_reducible exact Mods.set5 _ _ _ _ _ _ _ _ hmem | with_reducible exact (Mods.set5 _ _ _ _ _ _ _ _ hmem).alloc _

set_option maxRecDepth 100000 in
set_option maxHeartbeats 2000000 in
theorem step_fail (z u : Zn Int) (x y : Int) (b : Nat) (A : Option Addr) (c : Nat) (w : World) (F G : Nat → Prop) (h : Both w b z A c u F G) (_hn : z.L.length < 65536) (_hnu : u.L.length < 65536) (_hs : z.safe ≤ z.L.length) (_hsu : u.safe ≤ u.L.length) (_h4u : u.state ≤ 4) :
    Calls Try.prog 24 #[.pointer (some ⟨b, 0, none⟩), .agg #[.slice A u.L.length c, .int .i64 u.size, .int .i64 (u.safe : Int), .int .i64 u.state, .bool u.fin], .agg #[.int .i64 7, .int .i64 x, .int .i64 y]] w (Stepped w F G b (z.fail x) (u.fail x) true) := by
  have hlt := h.lt
  go_enter Try.func24, Try.ntmps24
  go_upto_region 1 with (fail)
  go_cut [25] (fun v wx => v = .int .i64 7 ∧ Blk wx w.heap.size 49 #[.slice A u.L.length c, .int .i64 u.size, .int .i64 (u.safe : Int), .int .i64 u.state, .bool u.fin] ∧ Blk wx (w.heap.size + 1) 41 #[.int .i64 7, .int .i64 x, .int .i64 y] ∧
    Blk wx (w.heap.size + 1 + 1) 49 #[.slice none 0 0, .int .i64 0, .int .i64 0, .int .i64 0, .bool false] ∧ Below w.heap.size w wx ∧ w.heap.size + 3 ≤ wx.heap.size)
  case first =>
    go_wp2_with fail
    go_meet
    refine ⟨rfl, ((Blk.new w _ _).alloc _).alloc _, ?_, ?_, (((Below.refl _ w).alloc (by simp) _).alloc (by simp) _).alloc (by simp; omega) _, by simp⟩
    · have := Blk.new (w.alloc (.cells #[.slice A u.L.length c, .int .i64 u.size, .int .i64 (u.safe : Int), .int .i64 u.state, .bool u.fin] 49)) 41 #[.int .i64 7, .int .i64 x, .int .i64 y]
      rw [World.size_alloc] at this
      exact this.alloc _
    · have := Blk.new ((w.alloc (.cells #[.slice A u.L.length c, .int .i64 u.size, .int .i64 (u.safe : Int), .int .i64 u.state, .bool u.fin] 49)).alloc (.cells #[.int .i64 7, .int .i64 x, .int .i64 y] 41)) 49 #[.slice none 0 0, .int .i64 0, .int .i64 0, .int .i64 0, .bool false]
      rw [World.size_alloc, World.size_alloc] at this
      exact this
  case rest =>
    obtain ⟨rfl, hb0, hb1, hb2, hbel, hsz⟩ := hcut
    have hB := h.below hbel
    obtain ⟨k0, k1, k2, k3, k4, f0, f1, f2, f3, f4⟩ := hb0.five
    obtain ⟨l0, l1, l2, e0, e1, e2⟩ := hb1.three
    obtain ⟨m0, m1, m2, m3, m4, g0, g1, g2, g3, g4⟩ := hb2.five
    go_wp2_with fail
    refine (ZI.fail_any z x b wc F hB.zone).mono ?_
    rintro e w1 ⟨rfl, hd⟩
    clear k0 k1 k2 k3 k4 f0 f1 f2 f3 f4 l0 l1 l2 e0 e1 e2 m0 m1 m2 m3 m4 g0 g1 g2 g3 g4
    have hb0 := boxes hb0 hd hlt (by omega)
    have hb1 := boxes hb1 hd hlt (by omega)
    have hb2 := boxes hb2 hd hlt (by omega)
    have hr1 := refThen hB hd
    have hs1 : wc.heap.size ≤ w1.heap.size := by obtain ⟨_, _, hm, _⟩ := hd; exact hm.size
    have Hd := hide hd
    clear hd
    obtain ⟨k0, k1, k2, k3, k4, f0, f1, f2, f3, f4⟩ := hb0.five
    obtain ⟨l0, l1, l2, e0, e1, e2⟩ := hb1.three
    obtain ⟨m0, m1, m2, m3, m4, g0, g1, g2, g3, g4⟩ := hb2.five
    go_wp2_with fail
    refine (R06.fail_any u x A c w1 G hr1).mono ?_
    rintro e w2 ⟨A2, c2, rfl, hr2, hbel2⟩
    clear k0 k1 k2 k3 k4 f0 f1 f2 f3 f4 l0 l1 l2 e0 e1 e2 m0 m1 m2 m3 m4 g0 g1 g2 g3 g4
    have hb0 := hb0.behind hbel2
    have hb1 := hb1.behind hbel2
    have hb2 := hb2.behind hbel2
    have hs2 := hbel2.size
    have hn0 : w.heap.size < w2.heap.size := by omega
    have hn1 : w.heap.size + 1 < w2.heap.size := by omega
    have hn2 : w.heap.size + 1 + 1 < w2.heap.size := by omega
    obtain ⟨k0, k1, k2, k3, k4, f0, f1, f2, f3, f4⟩ := hb0.five
    obtain ⟨l0, l1, l2, e0, e1, e2⟩ := hb1.three
    obtain ⟨m0, m1, m2, m3, m4, g0, g1, g2, g3, g4⟩ := hb2.five
    clear hb0 hb1
    go_wp2_with fail
    refine bodyPost_ret (res2 _ _ 6 7 _ rfl (by first | with_reducible exact hb2.set5 _ _ _ _ _ | with_reducible exact (hb2.set5 _ _ _ _ _).alloc _) _ rfl) rfl ?_
    refine Stepped.mk' h hbel Hd.out hr2 hbel2 ?_
    have hmem : (fun k => w.heap.size ≤ k ∧ k < wc.heap.size) (w.heap.size + 1 + 1) := ⟨by omega, by omega⟩
    first | with_reducible exact Mods.set5 _ _ _ _ _ _ _ _ hmem | with_reducible exact (Mods.set5 _ _ _ _ _ _ _ _ hmem).alloc _

set_option maxRecDepth 100000 in
set_option maxHeartbeats 2000000 in
theorem step_change (z u : Zn Int) (x y : Int) (b : Nat) (A : Option Addr) (c : Nat) (w : World) (F G : Nat → Prop) (h : Both w b z A c u F G) (_hn : z.L.length < 65536) (_hnu : u.L.length < 65536) (_hs : z.safe ≤ z.L.length) (_hsu : u.safe ≤ u.L.length) (_h4u : u.state ≤ 4) :
    Calls Try.prog 24 #[.pointer (some ⟨b, 0, none⟩), .agg #[.slice A u.L.length c, .int .i64 u.size, .int .i64 (u.safe : Int), .int .i64 u.state, .bool u.fin], .agg #[.int .i64 8, .int .i64 x, .int .i64 y]] w (Stepped w F G b (z.change (xor64 · y) x).1 (u.change (xor64 · y) x).1 ((z.change (xor64 · y) x).2 == (u.change (xor64 · y) x).2)) := by
  have hlt := h.lt
  go_enter Try.func24, Try.ntmps24
  go_upto_region 1 with (fail)
  go_cut [25] (fun v wx => v = .int .i64 8 ∧ Blk wx w.heap.size 49 #[.slice A u.L.length c, .int .i64 u.size, .int .i64 (u.safe : Int), .int .i64 u.state, .bool u.fin] ∧ Blk wx (w.heap.size + 1) 41 #[.int .i64 8, .int .i64 x, .int .i64 y] ∧
    Blk wx (w.heap.size + 1 + 1) 49 #[.slice none 0 0, .int .i64 0, .int .i64 0, .int .i64 0, .bool false] ∧ Below w.heap.size w wx ∧ w.heap.size + 3 ≤ wx.heap.size)
  case first =>
    go_wp2_with fail
    go_meet
    refine ⟨rfl, ((Blk.new w _ _).alloc _).alloc _, ?_, ?_, (((Below.refl _ w).alloc (by simp) _).alloc (by simp) _).alloc (by simp; omega) _, by simp⟩
    · have := Blk.new (w.alloc (.cells #[.slice A u.L.length c, .int .i64 u.size, .int .i64 (u.safe : Int), .int .i64 u.state, .bool u.fin] 49)) 41 #[.int .i64 8, .int .i64 x, .int .i64 y]
      rw [World.size_alloc] at this
      exact this.alloc _
    · have := Blk.new ((w.alloc (.cells #[.slice A u.L.length c, .int .i64 u.size, .int .i64 (u.safe : Int), .int .i64 u.state, .bool u.fin] 49)).alloc (.cells #[.int .i64 8, .int .i64 x, .int .i64 y] 41)) 49 #[.slice none 0 0, .int .i64 0, .int .i64 0, .int .i64 0, .bool false]
      rw [World.size_alloc, World.size_alloc] at this
      exact this
  case rest =>
    obtain ⟨rfl, hb0, hb1, hb2, hbel, hsz⟩ := hcut
    have hB := h.below hbel
    obtain ⟨k0, k1, k2, k3, k4, f0, f1, f2, f3, f4⟩ := hb0.five
    obtain ⟨l0, l1, l2, e0, e1, e2⟩ := hb1.three
    obtain ⟨m0, m1, m2, m3, m4, g0, g1, g2, g3, g4⟩ := hb2.five
    go_wp2_with fail
    refine (ZI.change_any z x y b _ wc F hB.zone _hn l2).mono ?_
    rintro e w1 ⟨rfl, hd⟩
    clear k0 k1 k2 k3 k4 f0 f1 f2 f3 f4 l0 l1 l2 e0 e1 e2 m0 m1 m2 m3 m4 g0 g1 g2 g3 g4
    have hb0 := boxes hb0 hd hlt (by omega)
    have hb1 := boxes hb1 hd hlt (by omega)
    have hb2 := boxes hb2 hd hlt (by omega)
    have hr1 := refThen hB hd
    have hs1 : wc.heap.size ≤ w1.heap.size := by obtain ⟨_, _, hm, _⟩ := hd; exact hm.size
    have Hd := hide hd
    clear hd
    obtain ⟨k0, k1, k2, k3, k4, f0, f1, f2, f3, f4⟩ := hb0.five
    obtain ⟨l0, l1, l2, e0, e1, e2⟩ := hb1.three
    obtain ⟨m0, m1, m2, m3, m4, g0, g1, g2, g3, g4⟩ := hb2.five
    go_wp2_with fail
    refine (R06.change_any u x y A c w1 G hr1 _hnu).mono ?_
    rintro e w2 ⟨A2, c2, rfl, hr2, hbel2⟩
    clear k0 k1 k2 k3 k4 f0 f1 f2 f3 f4 l0 l1 l2 e0 e1 e2 m0 m1 m2 m3 m4 g0 g1 g2 g3 g4
    have hb0 := hb0.behind hbel2
    have hb1 := hb1.behind hbel2
    have hb2 := hb2.behind hbel2
    have hs2 := hbel2.size
    have hn0 : w.heap.size < w2.heap.size := by omega
    have hn1 : w.heap.size + 1 < w2.heap.size := by omega
    have hn2 : w.heap.size + 1 + 1 < w2.heap.size := by omega
    obtain ⟨k0, k1, k2, k3, k4, f0, f1, f2, f3, f4⟩ := hb0.five
    obtain ⟨l0, l1, l2, e0, e1, e2⟩ := hb1.three
    obtain ⟨m0, m1, m2, m3, m4, g0, g1, g2, g3, g4⟩ := hb2.five
    clear hb0 hb1
    go_wp2_with fail
    refine bodyPost_ret (res2 _ _ 6 7 _ rfl (by first | with_reducible exact hb2.set5 _ _ _ _ _ | with_reducible exact (hb2.set5 _ _ _ _ _).alloc _) _ rfl) rfl ?_
    refine Stepped.mk' h hbel Hd.out hr2 hbel2 ?_
    have hmem : (fun k => w.heap.size ≤ k ∧ k < wc.heap.size) (w.heap.size + 1 + 1) := ⟨by omega, by omega⟩
    first | with_reducible exact Mods.set5 _ _ _ _ _ _ _ _ hmem | with_reducible exact (Mods.set5 _ _ _ _ _ _ _ _ hmem).alloc _

set_option maxRecDepth 100000 in
set_option maxHeartbeats 2000000 in
theorem step_other (z u : Zn Int) (k x y : Int) (hk : k < 1 ∨ 8 < k) (b : Nat) (A : Option Addr) (c : Nat) (w : World) (F G : Nat → Prop) (h : Both w b z A c u F G) :
    Calls Try.prog 24 #[.pointer (some ⟨b, 0, none⟩), .agg #[.slice A u.L.length c, .int .i64 u.size, .int .i64 (u.safe : Int), .int .i64 u.state, .bool u.fin], .agg #[.int .i64 k, .int .i64 x, .int .i64 y]] w (Stepped w F G b z u true) := by
  have n1 : (k == 1) = false := beq_eq_false_iff_ne.2 (by omega)
  have n2 : (k == 2) = false := beq_eq_false_iff_ne.2 (by omega)
  have n3 : (k == 3) = false := beq_eq_false_iff_ne.2 (by omega)
  have n4 : (k == 4) = false := beq_eq_false_iff_ne.2 (by omega)
  have n5 : (k == 5) = false := beq_eq_false_iff_ne.2 (by omega)
  have n6 : (k == 6) = false := beq_eq_false_iff_ne.2 (by omega)
  have n7 : (k == 7) = false := beq_eq_false_iff_ne.2 (by omega)
  have n8 : (k == 8) = false := beq_eq_false_iff_ne.2 (by omega)
  clear hk
  have hlt := h.lt
  go_enter Try.func24, Try.ntmps24
  go_upto_region 1 with (fail)
  go_cut [25] (fun v wx => v = .int .i64 k ∧ Blk wx w.heap.size 49 #[.slice A u.L.length c, .int .i64 u.size, .int .i64 (u.safe : Int), .int .i64 u.state, .bool u.fin] ∧ Blk wx (w.heap.size + 1) 41 #[.int .i64 k, .int .i64 x, .int .i64 y] ∧
    Blk wx (w.heap.size + 1 + 1) 49 #[.slice none 0 0, .int .i64 0, .int .i64 0, .int .i64 0, .bool false] ∧ Below w.heap.size w wx ∧ w.heap.size + 3 ≤ wx.heap.size)
  case first =>
    go_wp2_with fail
    go_meet
    refine ⟨rfl, ((Blk.new w _ _).alloc _).alloc _, ?_, ?_, (((Below.refl _ w).alloc (by simp) _).alloc (by simp) _).alloc (by simp; omega) _, by simp⟩
    · have := Blk.new (w.alloc (.cells #[.slice A u.L.length c, .int .i64 u.size, .int .i64 (u.safe : Int), .int .i64 u.state, .bool u.fin] 49)) 41 #[.int .i64 k, .int .i64 x, .int .i64 y]
      rw [World.size_alloc] at this
      exact this.alloc _
    · have := Blk.new ((w.alloc (.cells #[.slice A u.L.length c, .int .i64 u.size, .int .i64 (u.safe : Int), .int .i64 u.state, .bool u.fin] 49)).alloc (.cells #[.int .i64 k, .int .i64 x, .int .i64 y] 41)) 49 #[.slice none 0 0, .int .i64 0, .int .i64 0, .int .i64 0, .bool false]
      rw [World.size_alloc, World.size_alloc] at this
      exact this
  case rest =>
    obtain ⟨rfl, hb0, hb1, hb2, hbel, hsz⟩ := hcut
    have hB := h.below hbel
    obtain ⟨k0, k1, k2, k3, k4, f0, f1, f2, f3, f4⟩ := hb0.five
    obtain ⟨l0, l1, l2, e0, e1, e2⟩ := hb1.three
    obtain ⟨m0, m1, m2, m3, m4, g0, g1, g2, g3, g4⟩ := hb2.five
    clear hb0 hb1
    go_wp2_with fail
    refine bodyPost_ret (res2 _ _ 6 7 _ rfl (by with_reducible exact hb2.set5 _ _ _ _ _) _ rfl) rfl ?_
    exact Stepped.same h hbel hB _ _ _ _ _ (fun k hk => by have := h.lt k hk; omega) (fun k hk => by have := h.old k hk; omega) (by omega)

end Go.Proofs.Ytahlphclighccaa
