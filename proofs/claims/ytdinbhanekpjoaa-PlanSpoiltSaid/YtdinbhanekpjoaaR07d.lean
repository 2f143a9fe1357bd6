/-
  The document's device: Reset and Finish.
-/
import Derived.Test.YtdinbhanekpjoaaR07c
import Derived.Deep.RegionHeld3
namespace Go.Proofs.Ytdinbhanekpjoaa.R7
open Go.RowKit
theorem keep1 {a w : World} {b : Nat} (h : Mods (fun j => j = b) a w) (o : Nat) (v : Value) : Mods (fun j => j = b) a (w.setCell ⟨b, o, none⟩ v) := h.setCell (p := ⟨b, o, none⟩) (.inl rfl) v
theorem put_same {D : Dv} (k : Nat) (hk : k < D.zs.length) : D.put k D.zs[k] = D := by simp [Dv.put]
theorem begin_fst (D : Dv) (i : Int) : (D.begin_ i).1 = D ∨ (D.begin_ i).1 = D.tick := by
  unfold Dv.begin_
  split
  · exact .inl rfl
  · split
    · exact .inl rfl
    · exact .inr rfl
/-- The device's five cells are stored into the result's block r. -/
theorem stored5' {w wS : World} {D' : Dv} {A' : Option Addr} {c' : Nat} {es' : List RZ} {G : Nat → Prop} {r : Nat} {v0 v1 v2 v3 v4 : Value} (hB : Below w.heap.size w wS) (href : RefIs wS D' A' c' es' (fun k => G k ∧ k < w.heap.size)) (hr1 : w.heap.size ≤ r) :
    RefIs (((((wS.setCell ⟨r, 0, none⟩ v0).setCell ⟨r, 1, none⟩ v1).setCell ⟨r, 2, none⟩ v2).setCell ⟨r, 3, none⟩ v3).setCell ⟨r, 4, none⟩ v4) D' A' c' es' (fun k => G k ∨ w.heap.size ≤ k) ∧
    Below w.heap.size w (((((wS.setCell ⟨r, 0, none⟩ v0).setCell ⟨r, 1, none⟩ v1).setCell ⟨r, 2, none⟩ v2).setCell ⟨r, 3, none⟩ v3).setCell ⟨r, 4, none⟩ v4) := by
  have hm := Mods.set5 (fun k => k = r) wS r v0 v1 v2 v3 v4 rfl
  have hs := hB.size
  exact ⟨(href.mods hm (fun k hk _ e => by subst e; omega)).mono (fun k hk => .inl hk.1), hB.trans (hm.below (by omega) (fun k e => by omega))⟩

/-- Behind begin: its device is stored into the variable's own block b0. -/
theorem after5 {w W w1 : World} {b0 : Nat} {D : Dv} {A : Option Addr} {c : Nat} {es : List RZ} {G : Nat → Prop} {t : TypeId} {u0 u1 u2 u3 u4 : Value} (v0 v1 v2 v3 v4 : Value) (hB : Below w.heap.size w W) (hw : w.heap.size ≤ b0) (K0 : Blk W b0 t #[u0, u1, u2, u3, u4]) (h : RefIs w D A c es G) (hb1 : Below W.heap.size W w1) :
    Blk (((((w1.setCell ⟨b0, 0, none⟩ v0).setCell ⟨b0, 1, none⟩ v1).setCell ⟨b0, 2, none⟩ v2).setCell ⟨b0, 3, none⟩ v3).setCell ⟨b0, 4, none⟩ v4) b0 t #[v0, v1, v2, v3, v4] ∧
    Below w.heap.size w (((((w1.setCell ⟨b0, 0, none⟩ v0).setCell ⟨b0, 1, none⟩ v1).setCell ⟨b0, 2, none⟩ v2).setCell ⟨b0, 3, none⟩ v3).setCell ⟨b0, 4, none⟩ v4) ∧
    RefIs (((((w1.setCell ⟨b0, 0, none⟩ v0).setCell ⟨b0, 1, none⟩ v1).setCell ⟨b0, 2, none⟩ v2).setCell ⟨b0, 3, none⟩ v3).setCell ⟨b0, 4, none⟩ v4) D A c es (fun k => G k ∧ k < w.heap.size) ∧
    (∀ r t' cs, r ≠ b0 → Blk W r t' cs → Blk (((((w1.setCell ⟨b0, 0, none⟩ v0).setCell ⟨b0, 1, none⟩ v1).setCell ⟨b0, 2, none⟩ v2).setCell ⟨b0, 3, none⟩ v3).setCell ⟨b0, 4, none⟩ v4) r t' cs) := by
  have hm := Mods.set5 (fun k => k = b0) w1 b0 v0 v1 v2 v3 v4 rfl
  have hs := hB.size
  have hs1 := hb1.size
  have K1 : Blk w1 b0 t #[u0, u1, u2, u3, u4] := (hb1.block _ K0.lt).trans K0
  have hb := (hB.trans (hb1.mono hs)).trans (hm.below (by omega) (fun k e => by omega))
  exact ⟨K1.set5 _ _ _ _ _, hb, h.tight.below hb, fun r t' cs hne hr => Blk.mods ((hb1.block _ hr.lt).trans hr) hm hne⟩

section
variable {w : World} {D : Dv} {A : Option Addr} {c : Nat} {es : List RZ} {G : Nat → Prop}
set_option maxRecDepth 100000 in
set_option maxHeartbeats 1000000 in
theorem reset_no (h : RefIs w D A c es G) (hn : D.n < 65536) (hl : D.zs.length < 65536) (i : Int) (h0 : ¬ (D.begin_ i).2 = 0) : Calls Try.prog 50 #[.agg #[.slice A D.zs.length c, .int .i64 D.size, .int .i64 D.op, .int .i64 (D.n : Int), .bool D.down], .int .i64 i] w (Gave w G (D.reset i).1 (D.reset i).2) := by
  have hfin : Hid (D.reset i = ((D.begin_ i).1, (D.begin_ i).2)) := hide (Dv.answer_no Zn.reset h0)
  have e0 : ((D.begin_ i).2 != 0) = true := by simpa using h0
  clear h0
  have hB : Below w.heap.size w ((w.alloc (.cells #[.slice A D.zs.length c, .int .i64 D.size, .int .i64 D.op, .int .i64 (D.n : Int), .bool D.down] 31)).alloc (.cells #[.slice none 0 0, .int .i64 0, .int .i64 0, .int .i64 0, .bool false] 31)) := ((Below.refl _ w).alloc (Nat.le_refl _) _).alloc (by simp) _
  have k0 := (Blk.new w 31 #[.slice A D.zs.length c, .int .i64 D.size, .int .i64 D.op, .int .i64 (D.n : Int), .bool D.down]).alloc (.cells #[.slice none 0 0, .int .i64 0, .int .i64 0, .int .i64 0, .bool false] 31)
  have k1 := Blk.new (w.alloc (.cells #[.slice A D.zs.length c, .int .i64 D.size, .int .i64 D.op, .int .i64 (D.n : Int), .bool D.down] 31)) 31 #[.slice none 0 0, .int .i64 0, .int .i64 0, .int .i64 0, .bool false]
  rw [World.size_alloc] at k1
  have h' := hide h
  have Hl := hide hl
  clear h hl
  go_enter Try.func50, Try.ntmps50
  go_wp2_with fail
  obtain ⟨W2, hW⟩ : ∃ W2, W2 = (w.alloc (.cells #[.slice A D.zs.length c, .int .i64 D.size, .int .i64 D.op, .int .i64 (D.n : Int), .bool D.down] 31)).alloc (.cells #[.slice none 0 0, .int .i64 0, .int .i64 0, .int .i64 0, .bool false] 31) := ⟨_, rfl⟩
  rw [← hW] at hB k0 k1 ⊢
  clear hW
  have HB := hide hB
  have K0 := hide k0
  have K1 := hide k1
  have Hbg := begin_any D A c (i) W2 hn
  have Hbg := hide Hbg
  clear hB k0 k1
  refine Hbg.out.mono ?_
  rintro e w1 ⟨rfl, hb1⟩
  have k01 : Blk w1 w.heap.size 31 _ := (hb1.block _ K0.out.lt).trans K0.out
  obtain ⟨y0, y1, y2, y3, y4, fy0, fy1, fy2, fy3, fy4⟩ := k01.five
  have Haft := hide (after5 (.slice A D.zs.length c) (.int .i64 D.size) (.int .i64 D.op) (.int .i64 ((D.begin_ i).1.n : Int)) (.bool D.down) HB.out (Nat.le_refl _) K0.out h'.out hb1)
  clear hb1 k01
  go_upto_region 2 with (fail)
  obtain ⟨KS, hbs, hrs, Hoth⟩ := Haft.out
  have KS1 := hide (Hoth (w.heap.size + 1) _ _ (by omega) K1.out)
  have KS0 := hide KS
  have HBS := hide hbs
  have HRS := hide hrs
  clear KS hbs hrs Hoth Haft y0 y1 y2 y3 y4 fy0 fy1 fy2 fy3 fy4
  generalize ((((w1.setCell _ _).setCell _ _).setCell _ _).setCell _ _).setCell _ _ = wS at KS0 KS1 HBS HRS ⊢
  obtain ⟨s0, s1, s2, s3, s4, -⟩ := KS0.out.five
  obtain ⟨r0, r1, r2, r3, r4, g0, g1, g2, g3, g4⟩ := KS1.out.five
  go_wp2_with fail
  refine bodyPost_ret (v := .tuple #[.agg #[.slice A D.zs.length c, .int .i64 D.size, .int .i64 D.op, .int .i64 ((D.begin_ i).1.n : Int), .bool D.down], .int .i64 (D.begin_ i).2]) ?_ rfl ?_
  · exact results_dev2 (fn := Try.f50) (p := 4) (u := 5) (g := w.heap.size + 1) rfl _ _ _ _ _ _ _ rfl rfl (Blk.set5 KS1.out _ _ _ _ _)
  · rw [hfin.out]
    rcases begin_fst D i with e | e
    · rw [e]
      obtain ⟨q1, q2⟩ := stored5' (v0 := .slice A D.zs.length c) (v1 := .int .i64 D.size) (v2 := .int .i64 D.op) (v3 := .int .i64 (D.n : Int)) (v4 := .bool D.down) HBS.out HRS.out (r := w.heap.size + 1) (by omega)
      exact ⟨A, c, es, rfl, q1, q2⟩
    · rw [e]
      obtain ⟨q1, q2⟩ := stored5' (v0 := .slice A D.zs.length c) (v1 := .int .i64 D.size) (v2 := .int .i64 D.op) (v3 := .int .i64 (D.tick.n : Int)) (v4 := .bool D.down) HBS.out HRS.out (r := w.heap.size + 1) (by omega)
      exact ⟨A, c, es, rfl, q1.tick, q2⟩

set_option maxRecDepth 100000 in
set_option maxHeartbeats 1000000 in
theorem finish_no (h : RefIs w D A c es G) (hn : D.n < 65536) (hl : D.zs.length < 65536) (i : Int) (h0 : ¬ (D.begin_ i).2 = 0) : Calls Try.prog 51 #[.agg #[.slice A D.zs.length c, .int .i64 D.size, .int .i64 D.op, .int .i64 (D.n : Int), .bool D.down], .int .i64 i] w (Gave w G (D.finish i).1 (D.finish i).2) := by
  have hfin : Hid (D.finish i = ((D.begin_ i).1, (D.begin_ i).2)) := hide (Dv.answer_no Zn.finish h0)
  have e0 : ((D.begin_ i).2 != 0) = true := by simpa using h0
  clear h0
  have hB : Below w.heap.size w ((w.alloc (.cells #[.slice A D.zs.length c, .int .i64 D.size, .int .i64 D.op, .int .i64 (D.n : Int), .bool D.down] 31)).alloc (.cells #[.slice none 0 0, .int .i64 0, .int .i64 0, .int .i64 0, .bool false] 31)) := ((Below.refl _ w).alloc (Nat.le_refl _) _).alloc (by simp) _
  have k0 := (Blk.new w 31 #[.slice A D.zs.length c, .int .i64 D.size, .int .i64 D.op, .int .i64 (D.n : Int), .bool D.down]).alloc (.cells #[.slice none 0 0, .int .i64 0, .int .i64 0, .int .i64 0, .bool false] 31)
  have k1 := Blk.new (w.alloc (.cells #[.slice A D.zs.length c, .int .i64 D.size, .int .i64 D.op, .int .i64 (D.n : Int), .bool D.down] 31)) 31 #[.slice none 0 0, .int .i64 0, .int .i64 0, .int .i64 0, .bool false]
  rw [World.size_alloc] at k1
  have h' := hide h
  have Hl := hide hl
  clear h hl
  go_enter Try.func51, Try.ntmps51
  go_wp2_with fail
  obtain ⟨W2, hW⟩ : ∃ W2, W2 = (w.alloc (.cells #[.slice A D.zs.length c, .int .i64 D.size, .int .i64 D.op, .int .i64 (D.n : Int), .bool D.down] 31)).alloc (.cells #[.slice none 0 0, .int .i64 0, .int .i64 0, .int .i64 0, .bool false] 31) := ⟨_, rfl⟩
  rw [← hW] at hB k0 k1 ⊢
  clear hW
  have HB := hide hB
  have K0 := hide k0
  have K1 := hide k1
  have Hbg := begin_any D A c (i) W2 hn
  have Hbg := hide Hbg
  clear hB k0 k1
  refine Hbg.out.mono ?_
  rintro e w1 ⟨rfl, hb1⟩
  have k01 : Blk w1 w.heap.size 31 _ := (hb1.block _ K0.out.lt).trans K0.out
  obtain ⟨y0, y1, y2, y3, y4, fy0, fy1, fy2, fy3, fy4⟩ := k01.five
  have Haft := hide (after5 (.slice A D.zs.length c) (.int .i64 D.size) (.int .i64 D.op) (.int .i64 ((D.begin_ i).1.n : Int)) (.bool D.down) HB.out (Nat.le_refl _) K0.out h'.out hb1)
  clear hb1 k01
  go_upto_region 2 with (fail)
  obtain ⟨KS, hbs, hrs, Hoth⟩ := Haft.out
  have KS1 := hide (Hoth (w.heap.size + 1) _ _ (by omega) K1.out)
  have KS0 := hide KS
  have HBS := hide hbs
  have HRS := hide hrs
  clear KS hbs hrs Hoth Haft y0 y1 y2 y3 y4 fy0 fy1 fy2 fy3 fy4
  generalize ((((w1.setCell _ _).setCell _ _).setCell _ _).setCell _ _).setCell _ _ = wS at KS0 KS1 HBS HRS ⊢
  obtain ⟨s0, s1, s2, s3, s4, -⟩ := KS0.out.five
  obtain ⟨r0, r1, r2, r3, r4, g0, g1, g2, g3, g4⟩ := KS1.out.five
  go_wp2_with fail
  refine bodyPost_ret (v := .tuple #[.agg #[.slice A D.zs.length c, .int .i64 D.size, .int .i64 D.op, .int .i64 ((D.begin_ i).1.n : Int), .bool D.down], .int .i64 (D.begin_ i).2]) ?_ rfl ?_
  · exact results_dev2 (fn := Try.f51) (p := 4) (u := 5) (g := w.heap.size + 1) rfl _ _ _ _ _ _ _ rfl rfl (Blk.set5 KS1.out _ _ _ _ _)
  · rw [hfin.out]
    rcases begin_fst D i with e | e
    · rw [e]
      obtain ⟨q1, q2⟩ := stored5' (v0 := .slice A D.zs.length c) (v1 := .int .i64 D.size) (v2 := .int .i64 D.op) (v3 := .int .i64 (D.n : Int)) (v4 := .bool D.down) HBS.out HRS.out (r := w.heap.size + 1) (by omega)
      exact ⟨A, c, es, rfl, q1, q2⟩
    · rw [e]
      obtain ⟨q1, q2⟩ := stored5' (v0 := .slice A D.zs.length c) (v1 := .int .i64 D.size) (v2 := .int .i64 D.op) (v3 := .int .i64 (D.tick.n : Int)) (v4 := .bool D.down) HBS.out HRS.out (r := w.heap.size + 1) (by omega)
      exact ⟨A, c, es, rfl, q1.tick, q2⟩

set_option maxRecDepth 100000 in
set_option maxHeartbeats 1000000 in
theorem reset_failed (h : RefIs w D A c es G) (hn : D.n < 65536) (hl : D.zs.length < 65536) (k : Nat) (hd : ¬ D.down = true) (hk : k < D.zs.length) (hf : ¬ failedOf D.zs[k].state = 0) : Calls Try.prog 50 #[.agg #[.slice A D.zs.length c, .int .i64 D.size, .int .i64 D.op, .int .i64 (D.n : Int), .bool D.down], .int .i64 (k : Int)] w (Gave w G (D.reset (k : Int)).1 (D.reset (k : Int)).2) := by
  have hfin : Hid (D.reset (k : Int) = (D.tick.put k (Zn.reset D.zs[k]).1, (Zn.reset D.zs[k]).2)) := hide (Dv.answer_in Zn.reset hd hk)
  have Hbe := hide (Dv.begin_in k hd hk)
  have Hzf := hide (Zn.reset_failed (z := D.zs[k]) hf)
  have ef : (failedOf D.zs[k].state != 0) = true := by simpa using hf
  clear hd hf
  have hB : Below w.heap.size w ((w.alloc (.cells #[.slice A D.zs.length c, .int .i64 D.size, .int .i64 D.op, .int .i64 (D.n : Int), .bool D.down] 31)).alloc (.cells #[.slice none 0 0, .int .i64 0, .int .i64 0, .int .i64 0, .bool false] 31)) := ((Below.refl _ w).alloc (Nat.le_refl _) _).alloc (by simp) _
  have k0 := (Blk.new w 31 #[.slice A D.zs.length c, .int .i64 D.size, .int .i64 D.op, .int .i64 (D.n : Int), .bool D.down]).alloc (.cells #[.slice none 0 0, .int .i64 0, .int .i64 0, .int .i64 0, .bool false] 31)
  have k1 := Blk.new (w.alloc (.cells #[.slice A D.zs.length c, .int .i64 D.size, .int .i64 D.op, .int .i64 (D.n : Int), .bool D.down] 31)) 31 #[.slice none 0 0, .int .i64 0, .int .i64 0, .int .i64 0, .bool false]
  rw [World.size_alloc] at k1
  have h' := hide h
  have Hl := hide hl
  clear h hl
  go_enter Try.func50, Try.ntmps50
  go_wp2_with fail
  obtain ⟨W2, hW⟩ : ∃ W2, W2 = (w.alloc (.cells #[.slice A D.zs.length c, .int .i64 D.size, .int .i64 D.op, .int .i64 (D.n : Int), .bool D.down] 31)).alloc (.cells #[.slice none 0 0, .int .i64 0, .int .i64 0, .int .i64 0, .bool false] 31) := ⟨_, rfl⟩
  rw [← hW] at hB k0 k1 ⊢
  clear hW
  have HB := hide hB
  have K0 := hide k0
  have K1 := hide k1
  have Hbg := begin_any D A c (k : Int) W2 hn
  rw [Hbe.out] at Hbg
  have Hbg := hide Hbg
  clear hB k0 k1
  refine Hbg.out.mono ?_
  rintro e w1 ⟨rfl, hb1⟩
  have k01 : Blk w1 w.heap.size 31 _ := (hb1.block _ K0.out.lt).trans K0.out
  obtain ⟨y0, y1, y2, y3, y4, fy0, fy1, fy2, fy3, fy4⟩ := k01.five
  have Haft := hide (after5 (.slice A D.zs.length c) (.int .i64 D.size) (.int .i64 D.op) (.int .i64 ((D.tick.n : Nat) : Int)) (.bool D.down) HB.out (Nat.le_refl _) K0.out h'.out hb1)
  clear hb1 k01
  go_upto_region 2 with (fail)
  obtain ⟨KS, hbs, hrs, Hoth⟩ := Haft.out
  have KS1 := hide (Hoth (w.heap.size + 1) _ _ (by omega) K1.out)
  have KS0 := hide KS
  have HBS := hide hbs
  have HRS := hide hrs
  clear KS hbs hrs Hoth Haft y0 y1 y2 y3 y4 fy0 fy1 fy2 fy3 fy4
  generalize ((((w1.setCell _ _).setCell _ _).setCell _ _).setCell _ _).setCell _ _ = wS at KS0 KS1 HBS HRS ⊢
  obtain ⟨s0, s1, s2, s3, s4, -⟩ := KS0.out.five
  obtain ⟨r0, r1, r2, r3, r4, g0, g1, g2, g3, g4⟩ := KS1.out.five
  obtain ⟨g, rfl, hlc, hgl, hk', hez, x0, x1, x2, x3⟩ := HRS.out.at_ hk
  clear hez
  go_upto_region 5 with (go_at_call 86; refine (failed_any _ _ _ _ _ _ _).mono ?_; rintro e w' ⟨rfl, rfl⟩)
  have hbl0 : w.heap.size < wS.heap.size := KS0.out.lt
  have hbl1 : w.heap.size + 1 < wS.heap.size := KS1.out.lt
  have hgS : g < wS.heap.size := hgl
  have hgb : ¬ g = w.heap.size + 1 := by have := (HRS.out.inG.1 g rfl).2; omega
  have hS9 : Hid (∀ w', Below wS.heap.size wS w' → w'.cell? ⟨w.heap.size, 0, none⟩ = some (.slice (some ⟨g, 0, none⟩) D.zs.length c) ∧ w'.cell? ⟨w.heap.size, 1, none⟩ = some (.int .i64 D.size) ∧ w'.cell? ⟨w.heap.size, 2, none⟩ = some (.int .i64 D.op) ∧ w'.cell? ⟨w.heap.size, 3, none⟩ = some (.int .i64 (D.tick.n : Int)) ∧ w'.cell? ⟨w.heap.size, 4, none⟩ = some (.bool D.down) ∧ w'.cell? ⟨g, k * 4, none⟩ = some (.slice es[k].a D.zs[k].L.length es[k].c) ∧ w'.cell? ⟨g, k * 4 + 1, none⟩ = some (.int .i64 (D.zs[k].safe : Int)) ∧ w'.cell? ⟨g, k * 4 + 2, none⟩ = some (.int .i64 D.zs[k].state) ∧ w'.cell? ⟨g, k * 4 + 3, none⟩ = some (.bool D.zs[k].fin)) := hide (fun w' hV => ⟨(hV.cell (p := ⟨w.heap.size, 0, none⟩) hbl0).trans s0, (hV.cell (p := ⟨w.heap.size, 1, none⟩) hbl0).trans s1, (hV.cell (p := ⟨w.heap.size, 2, none⟩) hbl0).trans s2, (hV.cell (p := ⟨w.heap.size, 3, none⟩) hbl0).trans s3, (hV.cell (p := ⟨w.heap.size, 4, none⟩) hbl0).trans s4, (hV.cell (p := ⟨g, k * 4, none⟩) hgS).trans x0, (hV.cell (p := ⟨g, k * 4 + 1, none⟩) hgS).trans x1, (hV.cell (p := ⟨g, k * 4 + 2, none⟩) hgS).trans x2, (hV.cell (p := ⟨g, k * 4 + 3, none⟩) hgS).trans x3⟩)
  have hb1 : Below wS.heap.size wS (wS.alloc (.cells #[.slice es[k].a D.zs[k].L.length es[k].c, .int .i64 (D.zs[k].safe : Int), .int .i64 D.zs[k].state, .bool D.zs[k].fin] 93)) := (Below.refl _ wS).alloc (Nat.le_refl _) _
  have Hb1 := hide hb1
  generalize wS.alloc (.cells #[.slice es[k].a D.zs[k].L.length es[k].c, .int .i64 (D.zs[k].safe : Int), .int .i64 D.zs[k].state, .bool D.zs[k].fin] 93) = wT at Hb1 hb1 ⊢
  clear s0 s1 s2 s3 s4 x0 x1 x2 x3
  refine Reg.wp_region_reads (fun w' => w'.cell? ⟨w.heap.size, 0, none⟩ = some (.slice (some ⟨g, 0, none⟩) D.zs.length c) ∧ w'.cell? ⟨w.heap.size, 1, none⟩ = some (.int .i64 D.size) ∧ w'.cell? ⟨w.heap.size, 2, none⟩ = some (.int .i64 D.op) ∧ w'.cell? ⟨w.heap.size, 3, none⟩ = some (.int .i64 (D.tick.n : Int)) ∧ w'.cell? ⟨w.heap.size, 4, none⟩ = some (.bool D.down) ∧ w'.cell? ⟨g, k * 4, none⟩ = some (.slice es[k].a D.zs[k].L.length es[k].c) ∧ w'.cell? ⟨g, k * 4 + 1, none⟩ = some (.int .i64 (D.zs[k].safe : Int)) ∧ w'.cell? ⟨g, k * 4 + 2, none⟩ = some (.int .i64 D.zs[k].state) ∧ w'.cell? ⟨g, k * 4 + 3, none⟩ = some (.bool D.zs[k].fin)) 6 7 (by decide +kernel) (by decide +kernel) (hS9.out _ hb1.drew) ?_
  simp only [List.take_succ_cons, List.take_zero, List.drop_succ_cons, List.drop_zero]
  clear hb1
  iterate 6
    apply Reg.wpReads_step rfl
    · intro w' hS
      obtain ⟨q0, q1, q2, q3, q4, q5, q6, q7, q8⟩ := hS
      go_simp
      first | done | rfl
    intro K hK
    go_simp
    refine hK _ ?_
    clear hK K
  refine Reg.wpReads_nil ?_
  refine Reg.wpTail_step rfl (fun K hK => ?_)
  go_simp
  refine (failed_any _ _ _ _ _ _ _).mono ?_
  rintro e w' ⟨rfl, rfl⟩
  go_simp
  refine hK _ _ (fun _ => hS9.out _ (Hb1.out.drew.alloc (by have := Hb1.out.size; exact this) _)) ?_
  clear hK K
  refine Reg.wpTail_list _ _ _ _ (by omega) ?_
  have hb2 : Below wS.heap.size wS (wT.alloc (.cells #[.slice es[k].a D.zs[k].L.length es[k].c, .int .i64 (D.zs[k].safe : Int), .int .i64 D.zs[k].state, .bool D.zs[k].fin] 93)).drew := (Hb1.out.alloc Hb1.out.size _).drew
  generalize (wT.alloc (.cells #[.slice es[k].a D.zs[k].L.length es[k].c, .int .i64 (D.zs[k].safe : Int), .int .i64 D.zs[k].state, .bool D.zs[k].fin] 93)).drew = wX at hb2 ⊢
  have kX := (hb2.block _ KS1.out.lt).trans KS1.out
  have KX : Hid (Blk wX (w.heap.size + 1) 31 _) := hide kX
  obtain ⟨q0, q1, q2, q3, q4, p0, p1, p2, p3, p4⟩ := KX.out.five
  have HX := hide (HBS.out.trans (hb2.mono HBS.out.size))
  have HRX := hide (HRS.out.below hb2)
  clear hb2 kX
  go_wp2_with fail
  refine NoPanic.normal ?_
  go_wp2_with fail
  refine bodyPost_ret (v := .tuple #[.agg #[.slice (some ⟨g, 0, none⟩) D.zs.length c, .int .i64 D.size, .int .i64 D.op, .int .i64 (D.tick.n : Int), .bool D.down], .int .i64 (failedOf D.zs[k].state)]) ?_ rfl ?_
  · exact results_dev2 (fn := Try.f50) (p := 4) (u := 5) (g := w.heap.size + 1) rfl _ _ _ _ _ _ _ rfl rfl (Blk.set5 KX.out _ _ _ _ _)
  · rw [hfin.out, Hzf.out]
    have e : D.tick.put k D.zs[k] = D.tick := put_same (D := D.tick) k hk
    rw [e]
    obtain ⟨t1, t2⟩ := stored5' (v0 := .slice (some ⟨g, 0, none⟩) D.zs.length c) (v1 := .int .i64 D.size) (v2 := .int .i64 D.op) (v3 := .int .i64 (D.tick.n : Int)) (v4 := .bool D.down) HX.out HRX.out (r := w.heap.size + 1) (by omega)
    exact ⟨some ⟨g, 0, none⟩, c, es, rfl, t1.tick, t2⟩
end
end Go.Proofs.Ytdinbhanekpjoaa.R7
