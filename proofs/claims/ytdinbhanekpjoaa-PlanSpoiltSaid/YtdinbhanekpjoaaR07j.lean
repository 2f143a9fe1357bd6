/-
  The document's device: Read.
-/
import Derived.Test.YtdinbhanekpjoaaR07i
namespace Go.Proofs.Ytdinbhanekpjoaa.R7
open Go.RowKit
theorem sizeAr (x : Sec) : (Try.prog.info? 33).map (·.size) = some x.cs.toArray.size := by rw [List.size_toArray, x.len]; exact sizeA
theorem results_cell2_tmp {fn : Func} {p q u : Tmp} {ty ty2 : TypeId} (h : fn.results = #[.cell p ty, .cell q ty2, .tmp u]) (tmps : Array Value) (P : Program) (w : World) :
    (results fn tmps).run P w =
      ((asAddr (tmps.getD p undef)).run P w).andThen fun a w₁ => ((loadVar ty a).run P w₁).andThen fun v w₂ => ((asAddr (tmps.getD q undef)).run P w₂).andThen fun a2 w₃ => ((loadVar ty2 a2).run P w₃).andThen fun v2 w₄ => .ok (.tuple #[v, v2, tmps.getD u undef]) w₄ := by
  simp only [results, h]
  simp [Sem.run_bind, Result.andThen]
/-- What Read hands back: a device, a sector and a number. -/
def GaveS (w : World) (G : Nat → Prop) (D' : Dv) (x : Sec) (p : Int) (e : Ending) (w' : World) : Prop :=
  ∃ A c es, e = .returned (.tuple #[.agg #[.slice A D'.zs.length c, .int .i64 D'.size, .int .i64 D'.op, .int .i64 (D'.n : Int), .bool D'.down], x.agg, .int .i64 p]) ∧ RefIs w' D' A c es (fun k => G k ∨ w.heap.size ≤ k) ∧ Below w.heap.size w w'
theorem results_dev_sec {fn : Func} {p q u : Tmp} {w : World} {g g2 : Nat} {t2 : TypeId} (h : fn.results = #[.cell p 31, .cell q 33, .tmp u]) (tmps : Array Value) (v v0 v1 v2 v3 v4 : Value) (x : Sec) (hp : tmps.getD p undef = .pointer (some ⟨g, 0, none⟩)) (hq : tmps.getD q undef = .pointer (some ⟨g2, 0, none⟩)) (hv : tmps.getD u undef = v) (hg : Blk w g 31 #[v0, v1, v2, v3, v4]) (hg2 : Blk w g2 t2 x.cs.toArray) :
    (results fn tmps).run Try.prog w = .ok (.tuple #[.agg #[v0, v1, v2, v3, v4], x.agg, v]) w := by
  subst hv
  rw [results_cell2_tmp h, hp, hq]
  simp only [asAddr, Sem.run_pure, Result.andThen_ok, run_loadVar_row (P := Try.prog) w g 31 31 #[v0, v1, v2, v3, v4] (0, 0) _ hg Try.underlying31 rfl sizeD, run_loadVar_row (P := Try.prog) w g2 t2 33 x.cs.toArray (0, 0) _ hg2 Try.underlying33 rfl (sizeAr x)]
  rfl
theorem own_range {w : World} {E : TypeId} {A : Option Addr} {n c : Nat} {L : List Sec} (h : w.ownsRow 0 E 64 (.slice A n c) n (L.flatMap Sec.cs)) (hn : L.length = n) (j : Nat) (hj : j < L.length) :
    ∃ g, A = some ⟨g, 0, none⟩ ∧ n ≤ c ∧ g < w.heap.size ∧ w.rangeAt g (j * 64) L[j].cs := by
  rcases h.2 with ⟨h', h0⟩ | ⟨g, cap, cur, h', _, hh, hc, _, _, ht⟩
  · omega
  · simp only [Value.slice.injEq, true_and] at h'
    obtain ⟨rfl, rfl⟩ := h'
    refine ⟨g, rfl, hc, (Array.getElem?_eq_some_iff.1 hh).1, fun i v hv => ?_⟩
    have hi : i < 64 := by rw [← L[j].len]; exact (List.getElem?_eq_some_iff.1 hv).1
    have := h.cells (g := g) rfl (j * 64 + i) v (by rw [flat_get _ j hj i hi]; exact hv)
    simpa [Addr.add_lit] using this
theorem drew_set5 (w : World) (p0 p1 p2 p3 p4 : Addr) (v0 v1 v2 v3 v4 : Value) : (((((w.setCell p0 v0).setCell p1 v1).setCell p2 v2).setCell p3 v3).setCell p4 v4).drew = ((((w.drew.setCell p0 v0).setCell p1 v1).setCell p2 v2).setCell p3 v3).setCell p4 v4 := by simp only [World.setCell_drew]
theorem range_mods {S : Nat → Prop} {w w' : World} {g o : Nat} {cs : List Value} (h : w.rangeAt g o cs) (hm : Mods S w w') (hg : ¬ S g) : w'.rangeAt g o cs := fun i v hv => by
  have := h i v hv
  exact (hm.cell (p := ⟨g, o + i, none⟩) (World.block_lt_of_cell? _ _ this) hg).trans this
/-- The device is stored into the block b1, the sector into b2. -/
theorem storedS {w wS : World} {D' : Dv} {A' : Option Addr} {c' : Nat} {es' : List RZ} {G : Nat → Prop} {v0 v1 v2 v3 v4 : Value} {cs : Array Value} (hB : Below w.heap.size w wS) (href : RefIs wS D' A' c' es' (fun k => G k ∧ k < w.heap.size)) :
    RefIs ((((((wS.setCell ⟨w.heap.size + 1, 0, none⟩ v0).setCell ⟨w.heap.size + 1, 1, none⟩ v1).setCell ⟨w.heap.size + 1, 2, none⟩ v2).setCell ⟨w.heap.size + 1, 3, none⟩ v3).setCell ⟨w.heap.size + 1, 4, none⟩ v4).setRow (w.heap.size + 1 + 1) cs) D' A' c' es' (fun k => G k ∨ w.heap.size ≤ k) ∧
    Below w.heap.size w ((((((wS.setCell ⟨w.heap.size + 1, 0, none⟩ v0).setCell ⟨w.heap.size + 1, 1, none⟩ v1).setCell ⟨w.heap.size + 1, 2, none⟩ v2).setCell ⟨w.heap.size + 1, 3, none⟩ v3).setCell ⟨w.heap.size + 1, 4, none⟩ v4).setRow (w.heap.size + 1 + 1) cs) := by
  have hm := (Mods.set5 (fun k => w.heap.size ≤ k) wS (w.heap.size + 1) v0 v1 v2 v3 v4 (by omega)).setRow (g := w.heap.size + 1 + 1) (.inl (by omega)) cs
  have hs := hB.size
  exact ⟨(href.mods hm (fun k hk _ e => by have := hk.2; omega)).mono (fun k hk => .inl hk.1), hB.trans (hm.below (by omega) (fun k e => by omega))⟩
section
variable {w : World} {D : Dv} {A : Option Addr} {c : Nat} {es : List RZ} {G : Nat → Prop}
set_option maxRecDepth 100000 in
set_option maxHeartbeats 1000000 in
theorem read_no (h : RefIs w D A c es G) (hn : D.n < 65536) (hl : D.zs.length < 65536) (hL : ∀ x ∈ D.zs, x.L.length < 65536) (i off : Int) (h0 : ¬ (D.begin_ i).2 = 0) : Calls Try.prog 49 #[.agg #[.slice A D.zs.length c, .int .i64 D.size, .int .i64 D.op, .int .i64 (D.n : Int), .bool D.down], .int .i64 i, .int .i64 off] w (GaveS w G (D.read i off).1 (D.read i off).2.1 (D.read i off).2.2) := by
  have hfin := hide (Dv.read_no off h0)
  have e0 : ((D.begin_ i).2 != 0) = true := by simpa using h0
  clear h0
  have hB : Below w.heap.size w (((w.alloc (.cells #[.slice A D.zs.length c, .int .i64 D.size, .int .i64 D.op, .int .i64 (D.n : Int), .bool D.down] 31)).alloc (.cells #[.slice none 0 0, .int .i64 0, .int .i64 0, .int .i64 0, .bool false] 31)).alloc (.cells Sec.zero.cs.toArray 33)) := (((Below.refl _ w).alloc (Nat.le_refl _) _).alloc (by simp) _).alloc (by simp; omega) _
  have k0 := ((Blk.new w 31 #[.slice A D.zs.length c, .int .i64 D.size, .int .i64 D.op, .int .i64 (D.n : Int), .bool D.down]).alloc (.cells #[.slice none 0 0, .int .i64 0, .int .i64 0, .int .i64 0, .bool false] 31)).alloc (.cells Sec.zero.cs.toArray 33)
  have k1 := (Blk.new (w.alloc (.cells #[.slice A D.zs.length c, .int .i64 D.size, .int .i64 D.op, .int .i64 (D.n : Int), .bool D.down] 31)) 31 #[.slice none 0 0, .int .i64 0, .int .i64 0, .int .i64 0, .bool false]).alloc (.cells Sec.zero.cs.toArray 33)
  have k2 := Blk.new ((w.alloc (.cells #[.slice A D.zs.length c, .int .i64 D.size, .int .i64 D.op, .int .i64 (D.n : Int), .bool D.down] 31)).alloc (.cells #[.slice none 0 0, .int .i64 0, .int .i64 0, .int .i64 0, .bool false] 31)) 33 Sec.zero.cs.toArray
  rw [World.size_alloc] at k1
  rw [World.size_alloc, World.size_alloc] at k2
  have h' := hide h
  have Hl := hide hl
  have HLen := hide hL
  clear h hl hL
  go_enter Try.func49, Try.ntmps49
  go_wp2_with fail
  generalize hW : World.alloc (World.alloc (World.alloc w _) _) _ = W2
  have hW' : (((w.alloc (.cells #[.slice A D.zs.length c, .int .i64 D.size, .int .i64 D.op, .int .i64 (D.n : Int), .bool D.down] 31)).alloc (.cells #[.slice none 0 0, .int .i64 0, .int .i64 0, .int .i64 0, .bool false] 31)).alloc (.cells Sec.zero.cs.toArray 33)) = W2 := hW
  rw [hW'] at hB k0 k1 k2
  clear hW hW'
  have HB := hide hB
  have K0 := hide k0
  have K1 := hide k1
  have K2 := hide k2
  have Hbg := begin_any D A c (i) W2 hn
  have Hbg := hide Hbg
  clear hB k0 k1 k2
  refine Hbg.out.mono ?_
  rintro e w1 ⟨rfl, hb1⟩
  have k01 : Blk w1 w.heap.size 31 _ := (hb1.block _ K0.out.lt).trans K0.out
  obtain ⟨y0, y1, y2, y3, y4, fy0, fy1, fy2, fy3, fy4⟩ := k01.five
  have Haft := hide (after5 (.slice A D.zs.length c) (.int .i64 D.size) (.int .i64 D.op) (.int .i64 ((D.begin_ i).1.n : Int)) (.bool D.down) HB.out (Nat.le_refl _) K0.out h'.out hb1)
  clear hb1 k01 Hbg
  go_upto_region 2 with (fail)
  obtain ⟨KS, hbs, hrs, Hoth⟩ := Haft.out
  have KS1 := hide (Hoth (w.heap.size + 1) _ _ (by omega) K1.out)
  have KS2 := hide (Hoth (w.heap.size + 1 + 1) _ _ (by omega) K2.out)
  have KS0 := hide KS
  have HBS := hide hbs
  have HRS := hide hrs
  clear KS hbs hrs Hoth Haft y0 y1 y2 y3 y4 fy0 fy1 fy2 fy3 fy4 K0 K1 K2
  generalize ((((w1.setCell _ _).setCell _ _).setCell _ _).setCell _ _).setCell _ _ = wS at KS0 KS1 KS2 HBS HRS ⊢
  obtain ⟨s0, s1, s2, s3, s4, -⟩ := KS0.out.five
  obtain ⟨r0, r1, r2, r3, r4, g0, g1, g2, g3, g4⟩ := KS1.out.five
  have Hs5 := hide (Mods.set5 (fun k => k = w.heap.size + 1) wS (w.heap.size + 1) (.slice A D.zs.length c) (.int .i64 D.size) (.int .i64 D.op) (.int .i64 ((D.begin_ i).1.n : Int)) (.bool D.down) rfl)
  have Hs5 := hide (KS2.out.mods Hs5.out (by omega))
  go_wp2_with (refine wpList_store_row rfl 33 (.tmp 7) (.tmp 20) rfl (w.heap.size + 1 + 1) Sec.zero.cs.toArray ?_ ?_ 33 Sec.zero.cs.toArray ?_ (sizeAr Sec.zero) ?_ (sec_all _) ?_; exact rfl; exact rfl; exact Hs5.out; exact by simp [Sec.len])
  refine bodyPost_ret (v := .tuple #[.agg #[.slice A D.zs.length c, .int .i64 D.size, .int .i64 D.op, .int .i64 ((D.begin_ i).1.n : Int), .bool D.down], Sec.zero.agg, .int .i64 (D.begin_ i).2]) ?_ rfl ?_
  · exact results_dev_sec (fn := Try.f49) (p := 6) (q := 7) (u := 8) (g := w.heap.size + 1) (g2 := w.heap.size + 1 + 1) rfl _ _ _ _ _ _ _ _ rfl rfl rfl ((Blk.set5 KS1.out _ _ _ _ _).setRow_far (by omega) _) ((Hs5.out).setRow _)
  · rw [hfin.out]
    rcases begin_fst D i with e | e
    · rw [e]
      obtain ⟨q1, q2⟩ := storedS (v0 := .slice A D.zs.length c) (v1 := .int .i64 D.size) (v2 := .int .i64 D.op) (v3 := .int .i64 (D.n : Int)) (v4 := .bool D.down) (cs := Sec.zero.cs.toArray) HBS.out HRS.out
      exact ⟨A, c, es, rfl, q1, q2⟩
    · rw [e]
      obtain ⟨q1, q2⟩ := storedS (v0 := .slice A D.zs.length c) (v1 := .int .i64 D.size) (v2 := .int .i64 D.op) (v3 := .int .i64 (D.tick.n : Int)) (v4 := .bool D.down) (cs := Sec.zero.cs.toArray) HBS.out HRS.out
      exact ⟨A, c, es, rfl, q1.tick, q2⟩
set_option maxRecDepth 100000 in
set_option maxHeartbeats 1000000 in
theorem read_off (h : RefIs w D A c es G) (hn : D.n < 65536) (hl : D.zs.length < 65536) (hL : ∀ x ∈ D.zs, x.L.length < 65536) (k : Nat) (off : Int) (hd : ¬ D.down = true) (hk : k < D.zs.length) (h4 : D.zs[k].state = 4) : Calls Try.prog 49 #[.agg #[.slice A D.zs.length c, .int .i64 D.size, .int .i64 D.op, .int .i64 (D.n : Int), .bool D.down], .int .i64 (k : Int), .int .i64 off] w (GaveS w G (D.read (k : Int) off).1 (D.read (k : Int) off).2.1 (D.read (k : Int) off).2.2) := by
  have hfin0 := hide (Dv.read_in off hd hk)
  have Hbe := hide (Dv.begin_in k hd hk)
  have hfin := hide (Zn.read_off (z := D.zs[k]) Sec.zero off h4)
  have e4 : (D.zs[k].state == 4) = true := beq_iff_eq.2 h4
  clear hd h4
  have hB : Below w.heap.size w (((w.alloc (.cells #[.slice A D.zs.length c, .int .i64 D.size, .int .i64 D.op, .int .i64 (D.n : Int), .bool D.down] 31)).alloc (.cells #[.slice none 0 0, .int .i64 0, .int .i64 0, .int .i64 0, .bool false] 31)).alloc (.cells Sec.zero.cs.toArray 33)) := (((Below.refl _ w).alloc (Nat.le_refl _) _).alloc (by simp) _).alloc (by simp; omega) _
  have k0 := ((Blk.new w 31 #[.slice A D.zs.length c, .int .i64 D.size, .int .i64 D.op, .int .i64 (D.n : Int), .bool D.down]).alloc (.cells #[.slice none 0 0, .int .i64 0, .int .i64 0, .int .i64 0, .bool false] 31)).alloc (.cells Sec.zero.cs.toArray 33)
  have k1 := (Blk.new (w.alloc (.cells #[.slice A D.zs.length c, .int .i64 D.size, .int .i64 D.op, .int .i64 (D.n : Int), .bool D.down] 31)) 31 #[.slice none 0 0, .int .i64 0, .int .i64 0, .int .i64 0, .bool false]).alloc (.cells Sec.zero.cs.toArray 33)
  have k2 := Blk.new ((w.alloc (.cells #[.slice A D.zs.length c, .int .i64 D.size, .int .i64 D.op, .int .i64 (D.n : Int), .bool D.down] 31)).alloc (.cells #[.slice none 0 0, .int .i64 0, .int .i64 0, .int .i64 0, .bool false] 31)) 33 Sec.zero.cs.toArray
  rw [World.size_alloc] at k1
  rw [World.size_alloc, World.size_alloc] at k2
  have h' := hide h
  have Hl := hide hl
  have HLen := hide hL
  clear h hl hL
  go_enter Try.func49, Try.ntmps49
  go_wp2_with fail
  generalize hW : World.alloc (World.alloc (World.alloc w _) _) _ = W2
  have hW' : (((w.alloc (.cells #[.slice A D.zs.length c, .int .i64 D.size, .int .i64 D.op, .int .i64 (D.n : Int), .bool D.down] 31)).alloc (.cells #[.slice none 0 0, .int .i64 0, .int .i64 0, .int .i64 0, .bool false] 31)).alloc (.cells Sec.zero.cs.toArray 33)) = W2 := hW
  rw [hW'] at hB k0 k1 k2
  clear hW hW'
  have HB := hide hB
  have K0 := hide k0
  have K1 := hide k1
  have K2 := hide k2
  have Hbg := begin_any D A c (k : Int) W2 hn
  rw [Hbe.out] at Hbg
  have Hbg := hide Hbg
  clear hB k0 k1 k2
  refine Hbg.out.mono ?_
  rintro e w1 ⟨rfl, hb1⟩
  have k01 : Blk w1 w.heap.size 31 _ := (hb1.block _ K0.out.lt).trans K0.out
  obtain ⟨y0, y1, y2, y3, y4, fy0, fy1, fy2, fy3, fy4⟩ := k01.five
  have Haft := hide (after5 (.slice A D.zs.length c) (.int .i64 D.size) (.int .i64 D.op) (.int .i64 ((D.tick.n : Nat) : Int)) (.bool D.down) HB.out (Nat.le_refl _) K0.out h'.out hb1)
  clear hb1 k01 Hbg
  go_upto_region 2 with (fail)
  obtain ⟨KS, hbs, hrs, Hoth⟩ := Haft.out
  have KS1 := hide (Hoth (w.heap.size + 1) _ _ (by omega) K1.out)
  have KS2 := hide (Hoth (w.heap.size + 1 + 1) _ _ (by omega) K2.out)
  have KS0 := hide KS
  have HBS := hide hbs
  have HRS := hide hrs
  clear KS hbs hrs Hoth Haft y0 y1 y2 y3 y4 fy0 fy1 fy2 fy3 fy4 K0 K1 K2
  generalize ((((w1.setCell _ _).setCell _ _).setCell _ _).setCell _ _).setCell _ _ = wS at KS0 KS1 KS2 HBS HRS ⊢
  obtain ⟨s0, s1, s2, s3, s4, -⟩ := KS0.out.five
  obtain ⟨r0, r1, r2, r3, r4, g0, g1, g2, g3, g4⟩ := KS1.out.five
  obtain ⟨g, rfl, hlc, hgl, hk', hez, x0, x1, x2, x3⟩ := HRS.out.at_ hk
  have Hez := hide hez
  clear hez
  go_upto_region 5 with (fail)
  have hbl0 : w.heap.size < wS.heap.size := KS0.out.lt
  have kz := Blk.new wS 93 #[.slice es[k].a D.zs[k].L.length es[k].c, .int .i64 (D.zs[k].safe : Int), .int .i64 D.zs[k].state, .bool D.zs[k].fin]
  have hbz : Below wS.heap.size wS (wS.alloc (.cells #[.slice es[k].a D.zs[k].L.length es[k].c, .int .i64 (D.zs[k].safe : Int), .int .i64 D.zs[k].state, .bool D.zs[k].fin] 93)) := (Below.refl _ wS).alloc (Nat.le_refl _) _
  have kV := (hbz.block _ KS0.out.lt).trans KS0.out
  have kT := (hbz.block _ KS1.out.lt).trans KS1.out
  have kU := (hbz.block _ KS2.out.lt).trans KS2.out
  have KT := hide (show Blk _ (w.heap.size + 1) 31 _ from kT)
  have KU := hide (show Blk _ (w.heap.size + 1 + 1) 33 _ from kU)
  have KV := hide (show Blk _ w.heap.size 31 _ from kV)
  have KZ := hide kz
  have HT := hide (HBS.out.trans (hbz.mono HBS.out.size))
  have HRT := hide (HRS.out.below hbz)
  clear kT kU kV hbz kz s0 s1 s2 s3 s4 r0 r1 r2 r3 r4 g0 g1 g2 g3 g4 x0 x1 x2 x3
  generalize (wS.alloc (.cells #[.slice es[k].a D.zs[k].L.length es[k].c, .int .i64 (D.zs[k].safe : Int), .int .i64 D.zs[k].state, .bool D.zs[k].fin] 93)) = wZ at KT KU KV KZ HT HRT ⊢
  have Hzs := hide (show w.heap.size + 1 + 1 < wS.heap.size from KS2.out.lt)
  have Hg : Hid (g < wS.heap.size) := hide hgl
  clear KS0 KS1 KS2 HRS hgl
  obtain ⟨bz, hbzq⟩ : ∃ b, b = wS.heap.size := ⟨_, rfl⟩
  rw [← hbzq] at KZ Hzs Hg ⊢
  have Hbz := hide hbzq
  clear hbzq hbl0
  obtain ⟨s0, s1, s2, s3, s4, -⟩ := KV.out.five
  obtain ⟨r0, r1, r2, r3, r4, g0, g1, g2, g3, g4⟩ := KT.out.five
  obtain ⟨x0, x1, x2, x3, -⟩ := KZ.out.four
  have Hs5 := hide (Mods.set5 (fun k => k = w.heap.size + 1) wZ (w.heap.size + 1) (.slice (some ⟨g, 0, none⟩) D.zs.length c) (.int .i64 D.size) (.int .i64 D.op) (.int .i64 (D.tick.n : Int)) (.bool D.down) rfl)
  have Hs5 := hide (KU.out.mods Hs5.out (by omega))
  go_wp2_with (refine wpList_store_row rfl 33 (.tmp 7) (.tmp 31) rfl (w.heap.size + 1 + 1) Sec.zero.cs.toArray ?_ ?_ 33 Sec.zero.cs.toArray ?_ (sizeAr Sec.zero) ?_ (sec_all _) ?_; exact rfl; exact rfl; exact Hs5.out; exact by simp [Sec.len])
  refine bodyPost_ret (v := .tuple #[.agg #[.slice (some ⟨g, 0, none⟩) D.zs.length c, .int .i64 D.size, .int .i64 D.op, .int .i64 (D.tick.n : Int), .bool D.down], Sec.zero.agg, .int .i64 32]) ?_ rfl ?_
  · exact results_dev_sec (fn := Try.f49) (p := 6) (q := 7) (u := 8) (g := w.heap.size + 1) (g2 := w.heap.size + 1 + 1) rfl _ _ _ _ _ _ _ _ rfl rfl rfl ((Blk.set5 KT.out _ _ _ _ _).setRow_far (by omega) _) ((Hs5.out).setRow _)
  · rw [hfin0.out, hfin.out]
    obtain ⟨q1, q2⟩ := storedS (v0 := .slice (some ⟨g, 0, none⟩) D.zs.length c) (v1 := .int .i64 D.size) (v2 := .int .i64 D.op) (v3 := .int .i64 (D.tick.n : Int)) (v4 := .bool D.down) (cs := Sec.zero.cs.toArray) HT.out HRT.out
    exact ⟨some ⟨g, 0, none⟩, c, es, rfl, q1.tick, q2⟩
set_option maxRecDepth 100000 in
set_option maxHeartbeats 1000000 in
theorem read_lo (h : RefIs w D A c es G) (hn : D.n < 65536) (hl : D.zs.length < 65536) (hL : ∀ x ∈ D.zs, x.L.length < 65536) (k : Nat) (off : Int) (hd : ¬ D.down = true) (hk : k < D.zs.length) (h4 : ¬ D.zs[k].state = 4) (h0 : off < 0) : Calls Try.prog 49 #[.agg #[.slice A D.zs.length c, .int .i64 D.size, .int .i64 D.op, .int .i64 (D.n : Int), .bool D.down], .int .i64 (k : Int), .int .i64 off] w (GaveS w G (D.read (k : Int) off).1 (D.read (k : Int) off).2.1 (D.read (k : Int) off).2.2) := by
  have hfin0 := hide (Dv.read_in off hd hk)
  have Hbe := hide (Dv.begin_in k hd hk)
  have hfin := hide (Zn.read_out (z := D.zs[k]) Sec.zero off h4 (.inl h0))
  have e4 : (D.zs[k].state == 4) = false := beq_eq_false_iff_ne.2 h4
  clear hd h4
  have hB : Below w.heap.size w (((w.alloc (.cells #[.slice A D.zs.length c, .int .i64 D.size, .int .i64 D.op, .int .i64 (D.n : Int), .bool D.down] 31)).alloc (.cells #[.slice none 0 0, .int .i64 0, .int .i64 0, .int .i64 0, .bool false] 31)).alloc (.cells Sec.zero.cs.toArray 33)) := (((Below.refl _ w).alloc (Nat.le_refl _) _).alloc (by simp) _).alloc (by simp; omega) _
  have k0 := ((Blk.new w 31 #[.slice A D.zs.length c, .int .i64 D.size, .int .i64 D.op, .int .i64 (D.n : Int), .bool D.down]).alloc (.cells #[.slice none 0 0, .int .i64 0, .int .i64 0, .int .i64 0, .bool false] 31)).alloc (.cells Sec.zero.cs.toArray 33)
  have k1 := (Blk.new (w.alloc (.cells #[.slice A D.zs.length c, .int .i64 D.size, .int .i64 D.op, .int .i64 (D.n : Int), .bool D.down] 31)) 31 #[.slice none 0 0, .int .i64 0, .int .i64 0, .int .i64 0, .bool false]).alloc (.cells Sec.zero.cs.toArray 33)
  have k2 := Blk.new ((w.alloc (.cells #[.slice A D.zs.length c, .int .i64 D.size, .int .i64 D.op, .int .i64 (D.n : Int), .bool D.down] 31)).alloc (.cells #[.slice none 0 0, .int .i64 0, .int .i64 0, .int .i64 0, .bool false] 31)) 33 Sec.zero.cs.toArray
  rw [World.size_alloc] at k1
  rw [World.size_alloc, World.size_alloc] at k2
  have h' := hide h
  have Hl := hide hl
  have HLen := hide hL
  clear h hl hL
  go_enter Try.func49, Try.ntmps49
  go_wp2_with fail
  generalize hW : World.alloc (World.alloc (World.alloc w _) _) _ = W2
  have hW' : (((w.alloc (.cells #[.slice A D.zs.length c, .int .i64 D.size, .int .i64 D.op, .int .i64 (D.n : Int), .bool D.down] 31)).alloc (.cells #[.slice none 0 0, .int .i64 0, .int .i64 0, .int .i64 0, .bool false] 31)).alloc (.cells Sec.zero.cs.toArray 33)) = W2 := hW
  rw [hW'] at hB k0 k1 k2
  clear hW hW'
  have HB := hide hB
  have K0 := hide k0
  have K1 := hide k1
  have K2 := hide k2
  have Hbg := begin_any D A c (k : Int) W2 hn
  rw [Hbe.out] at Hbg
  have Hbg := hide Hbg
  clear hB k0 k1 k2
  refine Hbg.out.mono ?_
  rintro e w1 ⟨rfl, hb1⟩
  have k01 : Blk w1 w.heap.size 31 _ := (hb1.block _ K0.out.lt).trans K0.out
  obtain ⟨y0, y1, y2, y3, y4, fy0, fy1, fy2, fy3, fy4⟩ := k01.five
  have Haft := hide (after5 (.slice A D.zs.length c) (.int .i64 D.size) (.int .i64 D.op) (.int .i64 ((D.tick.n : Nat) : Int)) (.bool D.down) HB.out (Nat.le_refl _) K0.out h'.out hb1)
  clear hb1 k01 Hbg
  go_upto_region 2 with (fail)
  obtain ⟨KS, hbs, hrs, Hoth⟩ := Haft.out
  have KS1 := hide (Hoth (w.heap.size + 1) _ _ (by omega) K1.out)
  have KS2 := hide (Hoth (w.heap.size + 1 + 1) _ _ (by omega) K2.out)
  have KS0 := hide KS
  have HBS := hide hbs
  have HRS := hide hrs
  clear KS hbs hrs Hoth Haft y0 y1 y2 y3 y4 fy0 fy1 fy2 fy3 fy4 K0 K1 K2
  generalize ((((w1.setCell _ _).setCell _ _).setCell _ _).setCell _ _).setCell _ _ = wS at KS0 KS1 KS2 HBS HRS ⊢
  obtain ⟨s0, s1, s2, s3, s4, -⟩ := KS0.out.five
  obtain ⟨r0, r1, r2, r3, r4, g0, g1, g2, g3, g4⟩ := KS1.out.five
  obtain ⟨g, rfl, hlc, hgl, hk', hez, x0, x1, x2, x3⟩ := HRS.out.at_ hk
  have Hez := hide hez
  clear hez
  go_upto_region 5 with (fail)
  have hbl0 : w.heap.size < wS.heap.size := KS0.out.lt
  have kz := Blk.new wS 93 #[.slice es[k].a D.zs[k].L.length es[k].c, .int .i64 (D.zs[k].safe : Int), .int .i64 D.zs[k].state, .bool D.zs[k].fin]
  have hbz : Below wS.heap.size wS (wS.alloc (.cells #[.slice es[k].a D.zs[k].L.length es[k].c, .int .i64 (D.zs[k].safe : Int), .int .i64 D.zs[k].state, .bool D.zs[k].fin] 93)) := (Below.refl _ wS).alloc (Nat.le_refl _) _
  have kV := (hbz.block _ KS0.out.lt).trans KS0.out
  have kT := (hbz.block _ KS1.out.lt).trans KS1.out
  have kU := (hbz.block _ KS2.out.lt).trans KS2.out
  have KT := hide (show Blk _ (w.heap.size + 1) 31 _ from kT)
  have KU := hide (show Blk _ (w.heap.size + 1 + 1) 33 _ from kU)
  have KV := hide (show Blk _ w.heap.size 31 _ from kV)
  have KZ := hide kz
  have HT := hide (HBS.out.trans (hbz.mono HBS.out.size))
  have HRT := hide (HRS.out.below hbz)
  clear kT kU kV hbz kz s0 s1 s2 s3 s4 r0 r1 r2 r3 r4 g0 g1 g2 g3 g4 x0 x1 x2 x3
  generalize (wS.alloc (.cells #[.slice es[k].a D.zs[k].L.length es[k].c, .int .i64 (D.zs[k].safe : Int), .int .i64 D.zs[k].state, .bool D.zs[k].fin] 93)) = wZ at KT KU KV KZ HT HRT ⊢
  have Hzs := hide (show w.heap.size + 1 + 1 < wS.heap.size from KS2.out.lt)
  have Hg : Hid (g < wS.heap.size) := hide hgl
  clear KS0 KS1 KS2 HRS hgl
  obtain ⟨bz, hbzq⟩ : ∃ b, b = wS.heap.size := ⟨_, rfl⟩
  rw [← hbzq] at KZ Hzs Hg ⊢
  have Hbz := hide hbzq
  clear hbzq hbl0
  obtain ⟨s0, s1, s2, s3, s4, -⟩ := KV.out.five
  obtain ⟨r0, r1, r2, r3, r4, g0, g1, g2, g3, g4⟩ := KT.out.five
  obtain ⟨x0, x1, x2, x3, -⟩ := KZ.out.four
  have Hs5 := hide (Mods.set5 (fun k => k = w.heap.size + 1) wZ (w.heap.size + 1) (.slice (some ⟨g, 0, none⟩) D.zs.length c) (.int .i64 D.size) (.int .i64 D.op) (.int .i64 (D.tick.n : Int)) (.bool D.down) rfl)
  have Hs5 := hide (KU.out.mods Hs5.out (by omega))
  go_wp2_with (refine wpList_store_row rfl 33 (.tmp 7) (.tmp 42) rfl (w.heap.size + 1 + 1) Sec.zero.cs.toArray ?_ ?_ 33 Sec.zero.cs.toArray ?_ (sizeAr Sec.zero) ?_ (sec_all _) ?_; exact rfl; exact rfl; exact Hs5.out; exact by simp [Sec.len])
  refine bodyPost_ret (v := .tuple #[.agg #[.slice (some ⟨g, 0, none⟩) D.zs.length c, .int .i64 D.size, .int .i64 D.op, .int .i64 (D.tick.n : Int), .bool D.down], Sec.zero.agg, .int .i64 31]) ?_ rfl ?_
  · exact results_dev_sec (fn := Try.f49) (p := 6) (q := 7) (u := 8) (g := w.heap.size + 1) (g2 := w.heap.size + 1 + 1) rfl _ _ _ _ _ _ _ _ rfl rfl rfl ((Blk.set5 KT.out _ _ _ _ _).setRow_far (by omega) _) ((Hs5.out).setRow _)
  · rw [hfin0.out, hfin.out]
    obtain ⟨q1, q2⟩ := storedS (v0 := .slice (some ⟨g, 0, none⟩) D.zs.length c) (v1 := .int .i64 D.size) (v2 := .int .i64 D.op) (v3 := .int .i64 (D.tick.n : Int)) (v4 := .bool D.down) (cs := Sec.zero.cs.toArray) HT.out HRT.out
    exact ⟨some ⟨g, 0, none⟩, c, es, rfl, q1.tick, q2⟩
set_option maxRecDepth 100000 in
set_option maxHeartbeats 1000000 in
theorem read_hi (h : RefIs w D A c es G) (hn : D.n < 65536) (hl : D.zs.length < 65536) (hL : ∀ x ∈ D.zs, x.L.length < 65536) (k : Nat) (off : Int) (hd : ¬ D.down = true) (hk : k < D.zs.length) (h4 : ¬ D.zs[k].state = 4) (h0 : ¬ off < 0) (h1 : (D.zs[k].L.length : Int) ≤ off) : Calls Try.prog 49 #[.agg #[.slice A D.zs.length c, .int .i64 D.size, .int .i64 D.op, .int .i64 (D.n : Int), .bool D.down], .int .i64 (k : Int), .int .i64 off] w (GaveS w G (D.read (k : Int) off).1 (D.read (k : Int) off).2.1 (D.read (k : Int) off).2.2) := by
  have hfin0 := hide (Dv.read_in off hd hk)
  have Hbe := hide (Dv.begin_in k hd hk)
  have hfin := hide (Zn.read_out (z := D.zs[k]) Sec.zero off h4 (.inr h1))
  have e4 : (D.zs[k].state == 4) = false := beq_eq_false_iff_ne.2 h4
  clear hd h4
  have hB : Below w.heap.size w (((w.alloc (.cells #[.slice A D.zs.length c, .int .i64 D.size, .int .i64 D.op, .int .i64 (D.n : Int), .bool D.down] 31)).alloc (.cells #[.slice none 0 0, .int .i64 0, .int .i64 0, .int .i64 0, .bool false] 31)).alloc (.cells Sec.zero.cs.toArray 33)) := (((Below.refl _ w).alloc (Nat.le_refl _) _).alloc (by simp) _).alloc (by simp; omega) _
  have k0 := ((Blk.new w 31 #[.slice A D.zs.length c, .int .i64 D.size, .int .i64 D.op, .int .i64 (D.n : Int), .bool D.down]).alloc (.cells #[.slice none 0 0, .int .i64 0, .int .i64 0, .int .i64 0, .bool false] 31)).alloc (.cells Sec.zero.cs.toArray 33)
  have k1 := (Blk.new (w.alloc (.cells #[.slice A D.zs.length c, .int .i64 D.size, .int .i64 D.op, .int .i64 (D.n : Int), .bool D.down] 31)) 31 #[.slice none 0 0, .int .i64 0, .int .i64 0, .int .i64 0, .bool false]).alloc (.cells Sec.zero.cs.toArray 33)
  have k2 := Blk.new ((w.alloc (.cells #[.slice A D.zs.length c, .int .i64 D.size, .int .i64 D.op, .int .i64 (D.n : Int), .bool D.down] 31)).alloc (.cells #[.slice none 0 0, .int .i64 0, .int .i64 0, .int .i64 0, .bool false] 31)) 33 Sec.zero.cs.toArray
  rw [World.size_alloc] at k1
  rw [World.size_alloc, World.size_alloc] at k2
  have h' := hide h
  have Hl := hide hl
  have HLen := hide hL
  clear h hl hL
  go_enter Try.func49, Try.ntmps49
  go_wp2_with fail
  generalize hW : World.alloc (World.alloc (World.alloc w _) _) _ = W2
  have hW' : (((w.alloc (.cells #[.slice A D.zs.length c, .int .i64 D.size, .int .i64 D.op, .int .i64 (D.n : Int), .bool D.down] 31)).alloc (.cells #[.slice none 0 0, .int .i64 0, .int .i64 0, .int .i64 0, .bool false] 31)).alloc (.cells Sec.zero.cs.toArray 33)) = W2 := hW
  rw [hW'] at hB k0 k1 k2
  clear hW hW'
  have HB := hide hB
  have K0 := hide k0
  have K1 := hide k1
  have K2 := hide k2
  have Hbg := begin_any D A c (k : Int) W2 hn
  rw [Hbe.out] at Hbg
  have Hbg := hide Hbg
  clear hB k0 k1 k2
  refine Hbg.out.mono ?_
  rintro e w1 ⟨rfl, hb1⟩
  have k01 : Blk w1 w.heap.size 31 _ := (hb1.block _ K0.out.lt).trans K0.out
  obtain ⟨y0, y1, y2, y3, y4, fy0, fy1, fy2, fy3, fy4⟩ := k01.five
  have Haft := hide (after5 (.slice A D.zs.length c) (.int .i64 D.size) (.int .i64 D.op) (.int .i64 ((D.tick.n : Nat) : Int)) (.bool D.down) HB.out (Nat.le_refl _) K0.out h'.out hb1)
  clear hb1 k01 Hbg
  go_upto_region 2 with (fail)
  obtain ⟨KS, hbs, hrs, Hoth⟩ := Haft.out
  have KS1 := hide (Hoth (w.heap.size + 1) _ _ (by omega) K1.out)
  have KS2 := hide (Hoth (w.heap.size + 1 + 1) _ _ (by omega) K2.out)
  have KS0 := hide KS
  have HBS := hide hbs
  have HRS := hide hrs
  clear KS hbs hrs Hoth Haft y0 y1 y2 y3 y4 fy0 fy1 fy2 fy3 fy4 K0 K1 K2
  generalize ((((w1.setCell _ _).setCell _ _).setCell _ _).setCell _ _).setCell _ _ = wS at KS0 KS1 KS2 HBS HRS ⊢
  obtain ⟨s0, s1, s2, s3, s4, -⟩ := KS0.out.five
  obtain ⟨r0, r1, r2, r3, r4, g0, g1, g2, g3, g4⟩ := KS1.out.five
  obtain ⟨g, rfl, hlc, hgl, hk', hez, x0, x1, x2, x3⟩ := HRS.out.at_ hk
  have Hez := hide hez
  clear hez
  go_upto_region 5 with (fail)
  have hbl0 : w.heap.size < wS.heap.size := KS0.out.lt
  have kz := Blk.new wS 93 #[.slice es[k].a D.zs[k].L.length es[k].c, .int .i64 (D.zs[k].safe : Int), .int .i64 D.zs[k].state, .bool D.zs[k].fin]
  have hbz : Below wS.heap.size wS (wS.alloc (.cells #[.slice es[k].a D.zs[k].L.length es[k].c, .int .i64 (D.zs[k].safe : Int), .int .i64 D.zs[k].state, .bool D.zs[k].fin] 93)) := (Below.refl _ wS).alloc (Nat.le_refl _) _
  have kV := (hbz.block _ KS0.out.lt).trans KS0.out
  have kT := (hbz.block _ KS1.out.lt).trans KS1.out
  have kU := (hbz.block _ KS2.out.lt).trans KS2.out
  have KT := hide (show Blk _ (w.heap.size + 1) 31 _ from kT)
  have KU := hide (show Blk _ (w.heap.size + 1 + 1) 33 _ from kU)
  have KV := hide (show Blk _ w.heap.size 31 _ from kV)
  have KZ := hide kz
  have HT := hide (HBS.out.trans (hbz.mono HBS.out.size))
  have HRT := hide (HRS.out.below hbz)
  clear kT kU kV hbz kz s0 s1 s2 s3 s4 r0 r1 r2 r3 r4 g0 g1 g2 g3 g4 x0 x1 x2 x3
  generalize (wS.alloc (.cells #[.slice es[k].a D.zs[k].L.length es[k].c, .int .i64 (D.zs[k].safe : Int), .int .i64 D.zs[k].state, .bool D.zs[k].fin] 93)) = wZ at KT KU KV KZ HT HRT ⊢
  have Hzs := hide (show w.heap.size + 1 + 1 < wS.heap.size from KS2.out.lt)
  have Hg : Hid (g < wS.heap.size) := hide hgl
  clear KS0 KS1 KS2 HRS hgl
  obtain ⟨bz, hbzq⟩ : ∃ b, b = wS.heap.size := ⟨_, rfl⟩
  rw [← hbzq] at KZ Hzs Hg ⊢
  have Hbz := hide hbzq
  clear hbzq hbl0
  obtain ⟨s0, s1, s2, s3, s4, -⟩ := KV.out.five
  obtain ⟨r0, r1, r2, r3, r4, g0, g1, g2, g3, g4⟩ := KT.out.five
  obtain ⟨x0, x1, x2, x3, -⟩ := KZ.out.four
  have Hs5 := hide (Mods.set5 (fun k => k = w.heap.size + 1) wZ (w.heap.size + 1) (.slice (some ⟨g, 0, none⟩) D.zs.length c) (.int .i64 D.size) (.int .i64 D.op) (.int .i64 (D.tick.n : Int)) (.bool D.down) rfl)
  have Hs5 := hide (KU.out.mods Hs5.out (by omega))
  go_wp2_with (refine wpList_store_row rfl 33 (.tmp 7) (.tmp 42) rfl (w.heap.size + 1 + 1) Sec.zero.cs.toArray ?_ ?_ 33 Sec.zero.cs.toArray ?_ (sizeAr Sec.zero) ?_ (sec_all _) ?_; exact rfl; exact rfl; exact Hs5.out; exact by simp [Sec.len])
  refine bodyPost_ret (v := .tuple #[.agg #[.slice (some ⟨g, 0, none⟩) D.zs.length c, .int .i64 D.size, .int .i64 D.op, .int .i64 (D.tick.n : Int), .bool D.down], Sec.zero.agg, .int .i64 31]) ?_ rfl ?_
  · exact results_dev_sec (fn := Try.f49) (p := 6) (q := 7) (u := 8) (g := w.heap.size + 1) (g2 := w.heap.size + 1 + 1) rfl _ _ _ _ _ _ _ _ rfl rfl rfl ((Blk.set5 KT.out _ _ _ _ _).setRow_far (by omega) _) ((Hs5.out).setRow _)
  · rw [hfin0.out, hfin.out]
    obtain ⟨q1, q2⟩ := storedS (v0 := .slice (some ⟨g, 0, none⟩) D.zs.length c) (v1 := .int .i64 D.size) (v2 := .int .i64 D.op) (v3 := .int .i64 (D.tick.n : Int)) (v4 := .bool D.down) (cs := Sec.zero.cs.toArray) HT.out HRT.out
    exact ⟨some ⟨g, 0, none⟩, c, es, rfl, q1.tick, q2⟩
set_option maxRecDepth 100000 in
set_option maxHeartbeats 1000000 in
theorem read_at (h : RefIs w D A c es G) (hn : D.n < 65536) (hl : D.zs.length < 65536) (hL : ∀ x ∈ D.zs, x.L.length < 65536) (k : Nat) (hd : ¬ D.down = true) (hk : k < D.zs.length) (j : Nat) (h4 : ¬ D.zs[k].state = 4) (hj : j < D.zs[k].L.length) : Calls Try.prog 49 #[.agg #[.slice A D.zs.length c, .int .i64 D.size, .int .i64 D.op, .int .i64 (D.n : Int), .bool D.down], .int .i64 (k : Int), .int .i64 (j : Int)] w (GaveS w G (D.read (k : Int) (j : Int)).1 (D.read (k : Int) (j : Int)).2.1 (D.read (k : Int) (j : Int)).2.2) := by
  have hfin0 := hide (Dv.read_in (j : Int) hd hk)
  have Hbe := hide (Dv.begin_in k hd hk)
  have hfin := hide (Zn.read_in (z := D.zs[k]) Sec.zero j h4 hj)
  have e4 : (D.zs[k].state == 4) = false := beq_eq_false_iff_ne.2 h4
  clear hd h4
  have hB : Below w.heap.size w (((w.alloc (.cells #[.slice A D.zs.length c, .int .i64 D.size, .int .i64 D.op, .int .i64 (D.n : Int), .bool D.down] 31)).alloc (.cells #[.slice none 0 0, .int .i64 0, .int .i64 0, .int .i64 0, .bool false] 31)).alloc (.cells Sec.zero.cs.toArray 33)) := (((Below.refl _ w).alloc (Nat.le_refl _) _).alloc (by simp) _).alloc (by simp; omega) _
  have k0 := ((Blk.new w 31 #[.slice A D.zs.length c, .int .i64 D.size, .int .i64 D.op, .int .i64 (D.n : Int), .bool D.down]).alloc (.cells #[.slice none 0 0, .int .i64 0, .int .i64 0, .int .i64 0, .bool false] 31)).alloc (.cells Sec.zero.cs.toArray 33)
  have k1 := (Blk.new (w.alloc (.cells #[.slice A D.zs.length c, .int .i64 D.size, .int .i64 D.op, .int .i64 (D.n : Int), .bool D.down] 31)) 31 #[.slice none 0 0, .int .i64 0, .int .i64 0, .int .i64 0, .bool false]).alloc (.cells Sec.zero.cs.toArray 33)
  have k2 := Blk.new ((w.alloc (.cells #[.slice A D.zs.length c, .int .i64 D.size, .int .i64 D.op, .int .i64 (D.n : Int), .bool D.down] 31)).alloc (.cells #[.slice none 0 0, .int .i64 0, .int .i64 0, .int .i64 0, .bool false] 31)) 33 Sec.zero.cs.toArray
  rw [World.size_alloc] at k1
  rw [World.size_alloc, World.size_alloc] at k2
  have h' := hide h
  have Hl := hide hl
  have HLen := hide hL
  clear h hl hL
  go_enter Try.func49, Try.ntmps49
  go_wp2_with fail
  generalize hW : World.alloc (World.alloc (World.alloc w _) _) _ = W2
  have hW' : (((w.alloc (.cells #[.slice A D.zs.length c, .int .i64 D.size, .int .i64 D.op, .int .i64 (D.n : Int), .bool D.down] 31)).alloc (.cells #[.slice none 0 0, .int .i64 0, .int .i64 0, .int .i64 0, .bool false] 31)).alloc (.cells Sec.zero.cs.toArray 33)) = W2 := hW
  rw [hW'] at hB k0 k1 k2
  clear hW hW'
  have HB := hide hB
  have K0 := hide k0
  have K1 := hide k1
  have K2 := hide k2
  have Hbg := begin_any D A c (k : Int) W2 hn
  rw [Hbe.out] at Hbg
  have Hbg := hide Hbg
  clear hB k0 k1 k2
  refine Hbg.out.mono ?_
  rintro e w1 ⟨rfl, hb1⟩
  have k01 : Blk w1 w.heap.size 31 _ := (hb1.block _ K0.out.lt).trans K0.out
  obtain ⟨y0, y1, y2, y3, y4, fy0, fy1, fy2, fy3, fy4⟩ := k01.five
  have Haft := hide (after5 (.slice A D.zs.length c) (.int .i64 D.size) (.int .i64 D.op) (.int .i64 ((D.tick.n : Nat) : Int)) (.bool D.down) HB.out (Nat.le_refl _) K0.out h'.out hb1)
  clear hb1 k01 Hbg
  go_upto_region 2 with (fail)
  obtain ⟨KS, hbs, hrs, Hoth⟩ := Haft.out
  have KS1 := hide (Hoth (w.heap.size + 1) _ _ (by omega) K1.out)
  have KS2 := hide (Hoth (w.heap.size + 1 + 1) _ _ (by omega) K2.out)
  have KS0 := hide KS
  have HBS := hide hbs
  have HRS := hide hrs
  clear KS hbs hrs Hoth Haft y0 y1 y2 y3 y4 fy0 fy1 fy2 fy3 fy4 K0 K1 K2
  generalize ((((w1.setCell _ _).setCell _ _).setCell _ _).setCell _ _).setCell _ _ = wS at KS0 KS1 KS2 HBS HRS ⊢
  obtain ⟨s0, s1, s2, s3, s4, -⟩ := KS0.out.five
  obtain ⟨r0, r1, r2, r3, r4, g0, g1, g2, g3, g4⟩ := KS1.out.five
  obtain ⟨g, rfl, hlc, hgl, hk', hez, x0, x1, x2, x3⟩ := HRS.out.at_ hk
  have Hez := hide hez
  clear hez
  have hrow : w.ownsRow 0 33 64 (.slice es[k].a D.zs[k].L.length es[k].c) D.zs[k].L.length (D.zs[k].L.flatMap Sec.cs) := by rw [← Hez.out]; exact h'.out.row _ (List.getElem_mem hk')
  obtain ⟨gr, ha, hjc, hgr, hck⟩ := own_range (hrow.mods' HBS.out) rfl j hj
  rw [ha] at x0
  have Hck := hide hck
  have Hgr := hide hgr
  have Hjc := hide hjc
  have Hgne : Hid (¬ gr = w.heap.size + 1) := hide (by
    intro e
    have := (HRS.out.inG.2 _ (List.getElem_mem hk') gr (by rw [ha]; rfl)).2
    omega)
  clear hrow ha hck hgr hjc
  go_upto_region 5 with (fail)
  have hbl0 : w.heap.size < wS.heap.size := KS0.out.lt
  have kz := Blk.new wS 93 #[.slice (some ⟨gr, 0, none⟩) D.zs[k].L.length es[k].c, .int .i64 (D.zs[k].safe : Int), .int .i64 D.zs[k].state, .bool D.zs[k].fin]
  have hbz : Below wS.heap.size wS (wS.alloc (.cells #[.slice (some ⟨gr, 0, none⟩) D.zs[k].L.length es[k].c, .int .i64 (D.zs[k].safe : Int), .int .i64 D.zs[k].state, .bool D.zs[k].fin] 93)) := (Below.refl _ wS).alloc (Nat.le_refl _) _
  have kV := (hbz.block _ KS0.out.lt).trans KS0.out
  have kT := (hbz.block _ KS1.out.lt).trans KS1.out
  have kU := (hbz.block _ KS2.out.lt).trans KS2.out
  have KT := hide (show Blk _ (w.heap.size + 1) 31 _ from kT)
  have KU := hide (show Blk _ (w.heap.size + 1 + 1) 33 _ from kU)
  have KV := hide (show Blk _ w.heap.size 31 _ from kV)
  have KZ := hide kz
  have HT := hide (HBS.out.trans (hbz.mono HBS.out.size))
  have HRT := hide (HRS.out.below hbz)
  clear kT kU kV kz s0 s1 s2 s3 s4 r0 r1 r2 r3 r4 g0 g1 g2 g3 g4 x0 x1 x2 x3
  have Hckz : Hid (World.rangeAt _ gr (j * 64) D.zs[k].L[j].cs) := hide (fun i v hv => (hbz.cell (p := ⟨gr, j * 64 + i, none⟩) Hgr.out).trans (Hck.out i v hv))
  clear Hck Hgr
  generalize (wS.alloc (.cells #[.slice (some ⟨gr, 0, none⟩) D.zs[k].L.length es[k].c, .int .i64 (D.zs[k].safe : Int), .int .i64 D.zs[k].state, .bool D.zs[k].fin] 93)) = wZ at hbz Hckz KT KU KV KZ HT HRT ⊢
  clear hbz
  have Hzs := hide (show w.heap.size + 1 + 1 < wS.heap.size from KS2.out.lt)
  have Hg : Hid (g < wS.heap.size) := hide hgl
  clear KS0 KS1 KS2 HRS hgl
  obtain ⟨bz, hbzq⟩ : ∃ b, b = wS.heap.size := ⟨_, rfl⟩
  rw [← hbzq] at KZ Hzs Hg ⊢
  have Hbz := hide hbzq
  clear hbzq hbl0
  obtain ⟨s0, s1, s2, s3, s4, -⟩ := KV.out.five
  obtain ⟨r0, r1, r2, r3, r4, g0, g1, g2, g3, g4⟩ := KT.out.five
  obtain ⟨x0, x1, x2, x3, -⟩ := KZ.out.four
  go_upto_region 9 with (fail)
  refine Reg.wp_region_reads (fun w' => w'.cell? ⟨w.heap.size, 0, none⟩ = some (.slice (some ⟨g, 0, none⟩) D.zs.length c) ∧ w'.cell? ⟨w.heap.size, 1, none⟩ = some (.int .i64 D.size) ∧ w'.cell? ⟨w.heap.size, 2, none⟩ = some (.int .i64 D.op) ∧ w'.cell? ⟨w.heap.size, 3, none⟩ = some (.int .i64 (D.tick.n : Int)) ∧ w'.cell? ⟨w.heap.size, 4, none⟩ = some (.bool D.down) ∧ w'.cell? ⟨bz, 0, none⟩ = some (.slice (some ⟨gr, 0, none⟩) D.zs[k].L.length es[k].c) ∧ w'.rangeAt gr (j * 64) D.zs[k].L[j].cs) 6 7 (by decide +kernel) (by decide +kernel) ⟨s0, s1, s2, s3, s4, x0, Hckz.out⟩ ?_
  simp only [List.take_succ_cons, List.take_zero, List.drop_succ_cons, List.drop_zero]
  iterate 5
    apply Reg.wpReads_step rfl
    · intro w' hS
      obtain ⟨q0, q1, q2, q3, q4, q5, q6⟩ := hS
      go_simp
      first | done | rfl
    intro K hK
    go_simp
    refine hK _ ?_
    clear hK K
  refine Reg.wpReads_load rfl 33 (.tmp 47) rfl gr (j * 64) rfl D.zs[k].L[j].cs _ (fun w' h => h.2.2.2.2.2.2) Try.underlying33 rfl (sizeAx _) (fun K hK => ?_)
  go_simp
  refine hK _ ?_
  clear hK K
  refine Reg.wpReads_nil ?_
  refine Reg.wpTail_step rfl (fun K hK => ?_)
  go_simp
  rw [drew_set5]
  have HTd := hide (HT.out.drew)
  have HRTd := hide (HRT.out.below (Below.refl wZ.heap.size wZ).drew)
  have KUd := hide (show Blk wZ.drew (w.heap.size + 1 + 1) 33 _ from KU.out)
  have KTd := hide (show Blk wZ.drew (w.heap.size + 1) 31 _ from KT.out)
  have KVd := hide (show Blk wZ.drew w.heap.size 31 _ from KV.out)
  have KZd := hide (show Blk wZ.drew bz 93 _ from KZ.out)
  have Hckd := hide (show wZ.drew.rangeAt gr (j * 64) D.zs[k].L[j].cs from Hckz.out)
  generalize wZ.drew = wD at HTd HRTd KUd KTd KVd KZd Hckd ⊢
  have Hm5 := hide (Mods.set5 (fun k => k = w.heap.size + 1) wD (w.heap.size + 1) (.slice (some ⟨g, 0, none⟩) D.zs.length c) (.int .i64 D.size) (.int .i64 D.op) (.int .i64 (D.tick.n : Int)) (.bool D.down) rfl)
  have Hs5 := hide (KUd.out.mods Hm5.out (by omega))
  have Hgb : Hid (¬ gr = w.heap.size + 1) := hide Hgne.out
  refine hK _ _ (fun _ => ?_) ?_
  · obtain ⟨s0, s1, s2, s3, s4, -⟩ := Blk.five (KVd.out.mods Hm5.out (by omega))
    obtain ⟨x0, x1, x2, x3, -⟩ := Blk.four (KZd.out.mods Hm5.out (by have := Hzs.out; omega))
    exact ⟨s0, s1, s2, s3, s4, x0, range_mods Hckd.out Hm5.out Hgb.out⟩
  clear hK K s0 s1 s2 s3 s4 r0 r1 r2 r3 r4 g0 g1 g2 g3 g4 x0 x1 x2 x3
  have Kf := hide (Blk.set5 KTd.out (.slice (some ⟨g, 0, none⟩) D.zs.length c) (.int .i64 D.size) (.int .i64 D.op) (.int .i64 (D.tick.n : Int)) (.bool D.down))
  obtain ⟨q1, q2⟩ := storedS (v0 := .slice (some ⟨g, 0, none⟩) D.zs.length c) (v1 := .int .i64 D.size) (v2 := .int .i64 D.op) (v3 := .int .i64 (D.tick.n : Int)) (v4 := .bool D.down) (cs := D.zs[k].L[j].cs.toArray) HTd.out HRTd.out
  have Hq1 := hide q1
  have Hq2 := hide q2
  clear q1 q2
  generalize ((((wD.setCell _ _).setCell _ _).setCell _ _).setCell _ _).setCell _ _ = wF at Hs5 Kf Hq1 Hq2 ⊢
  refine Reg.wpTail_list _ _ _ _ (by omega) ?_
  go_wp2_with (refine wpList_store_row rfl 33 (.tmp 7) (.tmp 48) rfl (w.heap.size + 1 + 1) D.zs[k].L[j].cs.toArray ?_ ?_ 33 Sec.zero.cs.toArray ?_ (sizeAr D.zs[k].L[j]) ?_ (sec_all _) ?_; exact rfl; exact rfl; exact Hs5.out; exact by simp [Sec.len])
  refine NoPanic.normal ?_
  go_wp2_with fail
  refine bodyPost_ret (v := .tuple #[.agg #[.slice (some ⟨g, 0, none⟩) D.zs.length c, .int .i64 D.size, .int .i64 D.op, .int .i64 (D.tick.n : Int), .bool D.down], D.zs[k].L[j].agg, .int .i64 0]) ?_ rfl ?_
  · exact results_dev_sec (fn := Try.f49) (p := 6) (q := 7) (u := 8) (g := w.heap.size + 1) (g2 := w.heap.size + 1 + 1) rfl _ _ _ _ _ _ _ _ rfl rfl rfl (Kf.out.setRow_far (by omega) _) ((Hs5.out).setRow _)
  · rw [hfin0.out, hfin.out]
    exact ⟨some ⟨g, 0, none⟩, c, es, rfl, Hq1.out.tick, Hq2.out⟩
theorem read_any (h : RefIs w D A c es G) (hn : D.n < 65536) (hl : D.zs.length < 65536) (hL : ∀ x ∈ D.zs, x.L.length < 65536) (i off : Int) : Calls Try.prog 49 #[.agg #[.slice A D.zs.length c, .int .i64 D.size, .int .i64 D.op, .int .i64 (D.n : Int), .bool D.down], .int .i64 i, .int .i64 off] w (GaveS w G (D.read i off).1 (D.read i off).2.1 (D.read i off).2.2) := by
  by_cases h0 : (D.begin_ i).2 = 0
  · obtain ⟨hd, k, rfl, hk⟩ := Dv.begin_zero h0
    by_cases h4 : D.zs[k].state = 4
    · exact read_off h hn hl hL k off hd hk h4
    · by_cases hlo : off < 0
      · exact read_lo h hn hl hL k off hd hk h4 hlo
      · by_cases hhi : (D.zs[k].L.length : Int) ≤ off
        · exact read_hi h hn hl hL k off hd hk h4 hlo hhi
        · obtain ⟨j, rfl⟩ := Int.eq_ofNat_of_zero_le (show 0 ≤ off by omega)
          exact read_at h hn hl hL k hd hk j h4 (by omega)
  · exact read_no h hn hl hL i off h0
end
end Go.Proofs.Ytdinbhanekpjoaa.R7
