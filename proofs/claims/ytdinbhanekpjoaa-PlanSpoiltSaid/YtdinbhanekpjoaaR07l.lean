/-
  The document's device: Append.
-/
import Derived.Test.YtdinbhanekpjoaaR07k
namespace Go.Proofs.Ytdinbhanekpjoaa.R7
open Go.RowKit
/-- What a method hands back that answers a device and two numbers. -/
def Gave3 (w : World) (G : Nat → Prop) (D' : Dv) (p q : Int) (e : Ending) (w' : World) : Prop :=
  ∃ A c es, e = .returned (.tuple #[.agg #[.slice A D'.zs.length c, .int .i64 D'.size, .int .i64 D'.op, .int .i64 (D'.n : Int), .bool D'.down], .int .i64 p, .int .i64 q]) ∧ RefIs w' D' A c es (fun k => G k ∨ w.heap.size ≤ k) ∧ Below w.heap.size w w'
theorem results_cell_tmp2 {fn : Func} {p u x : Tmp} {ty : TypeId} (h : fn.results = #[.cell p ty, .tmp u, .tmp x]) (tmps : Array Value) (P : Program) (w : World) :
    (results fn tmps).run P w = ((asAddr (tmps.getD p undef)).run P w).andThen fun a w₁ => ((loadVar ty a).run P w₁).andThen fun v w₂ => .ok (.tuple #[v, tmps.getD u undef, tmps.getD x undef]) w₂ := by
  simp only [results, h]
  simp [Sem.run_bind, Result.andThen]
theorem results_dev3 {fn : Func} {p u x : Tmp} {w : World} {g : Nat} (h : fn.results = #[.cell p 31, .tmp u, .tmp x]) (tmps : Array Value) (v v' v0 v1 v2 v3 v4 : Value) (hp : tmps.getD p undef = .pointer (some ⟨g, 0, none⟩)) (hv : tmps.getD u undef = v) (hv' : tmps.getD x undef = v') (hg : Blk w g 31 #[v0, v1, v2, v3, v4]) :
    (results fn tmps).run Try.prog w = .ok (.tuple #[.agg #[v0, v1, v2, v3, v4], v, v']) w := by
  subst hv hv'
  rw [results_cell_tmp2 h, hp]
  simp only [asAddr, Sem.run_pure, Result.andThen_ok, run_loadVar_row (P := Try.prog) w g 31 31 #[v0, v1, v2, v3, v4] (0, 0) _ hg Try.underlying31 rfl sizeD]
theorem set5_cell {w : World} {b : Nat} {v0 v1 v2 v3 v4 v : Value} {p : Addr} (hp : p.block ≠ b) (h : w.cell? p = some v) : (((((w.setCell ⟨b, 0, none⟩ v0).setCell ⟨b, 1, none⟩ v1).setCell ⟨b, 2, none⟩ v2).setCell ⟨b, 3, none⟩ v3).setCell ⟨b, 4, none⟩ v4).cell? p = some v :=
  ((Mods.set5 (fun k => k = b) w b v0 v1 v2 v3 v4 rfl).cell (World.block_lt_of_cell? _ _ h) hp).trans h
section
variable {w : World} {D : Dv} {A : Option Addr} {c : Nat} {es : List RZ} {G : Nat → Prop}
set_option maxRecDepth 100000 in
set_option maxHeartbeats 2000000 in
theorem append_no (h : RefIs w D A c es G) (hn : D.n < 65536) (hl : D.zs.length < 65536) (hL : ∀ x ∈ D.zs, x.L.length < 65536) (i : Int) (s : Sec) (h0 : ¬ (D.begin_ i).2 = 0) : Calls Try.prog 48 #[.agg #[.slice A D.zs.length c, .int .i64 D.size, .int .i64 D.op, .int .i64 (D.n : Int), .bool D.down], .int .i64 i, s.agg] w (Gave3 w G (D.append i s).1 (D.append i s).2.1 (D.append i s).2.2) := by
  have hfin := hide (Dv.append_no s h0)
  have e0 : ((D.begin_ i).2 != 0) = true := by simpa using h0
  clear h0
  have hB : Below w.heap.size w (((w.alloc (.cells #[.slice A D.zs.length c, .int .i64 D.size, .int .i64 D.op, .int .i64 (D.n : Int), .bool D.down] 31)).alloc (.cells s.cs.toArray 33)).alloc (.cells #[.slice none 0 0, .int .i64 0, .int .i64 0, .int .i64 0, .bool false] 31)) := (((Below.refl _ w).alloc (Nat.le_refl _) _).alloc (by simp) _).alloc (by simp; omega) _
  have k0 := ((Blk.new w 31 #[.slice A D.zs.length c, .int .i64 D.size, .int .i64 D.op, .int .i64 (D.n : Int), .bool D.down]).alloc (.cells s.cs.toArray 33)).alloc (.cells #[.slice none 0 0, .int .i64 0, .int .i64 0, .int .i64 0, .bool false] 31)
  have kp := (Blk.new (w.alloc (.cells #[.slice A D.zs.length c, .int .i64 D.size, .int .i64 D.op, .int .i64 (D.n : Int), .bool D.down] 31)) 33 s.cs.toArray).alloc (.cells #[.slice none 0 0, .int .i64 0, .int .i64 0, .int .i64 0, .bool false] 31)
  have k1 := Blk.new ((w.alloc (.cells #[.slice A D.zs.length c, .int .i64 D.size, .int .i64 D.op, .int .i64 (D.n : Int), .bool D.down] 31)).alloc (.cells s.cs.toArray 33)) 31 #[.slice none 0 0, .int .i64 0, .int .i64 0, .int .i64 0, .bool false]
  rw [World.size_alloc] at kp
  rw [World.size_alloc, World.size_alloc] at k1
  have h' := hide h
  have Hl := hide hl
  have HLen := hide hL
  have Hn := hide hn
  clear h hl hL hn
  unfold Sec.agg
  go_enter Try.func48, Try.ntmps48
  go_wp2_with fail
  generalize hW : World.alloc (World.alloc (World.alloc w _) _) _ = W2
  have hW' : (((w.alloc (.cells #[.slice A D.zs.length c, .int .i64 D.size, .int .i64 D.op, .int .i64 (D.n : Int), .bool D.down] 31)).alloc (.cells s.cs.toArray 33)).alloc (.cells #[.slice none 0 0, .int .i64 0, .int .i64 0, .int .i64 0, .bool false] 31)) = W2 := hW
  rw [hW'] at hB k0 kp k1
  clear hW hW'
  have HB := hide hB
  have K0 := hide k0
  have Kp := hide kp
  have K1 := hide k1
  have Hbg := begin_any D A c (i) W2 Hn.out
  have Hbg := hide Hbg
  clear hB k0 kp k1
  refine Hbg.out.mono ?_
  rintro e w1 ⟨rfl, hb1⟩
  have k01 : Blk w1 w.heap.size 31 _ := (hb1.block _ K0.out.lt).trans K0.out
  obtain ⟨y0, y1, y2, y3, y4, fy0, fy1, fy2, fy3, fy4⟩ := k01.five
  have Haft := hide (after5 (.slice A D.zs.length c) (.int .i64 D.size) (.int .i64 D.op) (.int .i64 ((D.begin_ i).1.n : Int)) (.bool D.down) HB.out (Nat.le_refl _) K0.out h'.out hb1)
  clear hb1 k01 Hbg
  go_upto_region 2 with (fail)
  obtain ⟨KS, hbs, hrs, Hoth⟩ := Haft.out
  have KSp := hide (Hoth (w.heap.size + 1) _ _ (by omega) Kp.out)
  have KS1 := hide (Hoth (w.heap.size + 1 + 1) _ _ (by omega) K1.out)
  have KS0 := hide KS
  have HBS := hide hbs
  have HRS := hide hrs
  clear KS hbs hrs Hoth Haft y0 y1 y2 y3 y4 fy0 fy1 fy2 fy3 fy4 K0 K1 Kp
  generalize ((((w1.setCell _ _).setCell _ _).setCell _ _).setCell _ _).setCell _ _ = wS at KS0 KS1 KSp HBS HRS ⊢
  obtain ⟨s0, s1, s2, s3, s4, -⟩ := KS0.out.five
  obtain ⟨r0, r1, r2, r3, r4, g0, g1, g2, g3, g4⟩ := KS1.out.five
  go_wp2_with fail
  refine bodyPost_ret (v := .tuple #[.agg #[.slice A D.zs.length c, .int .i64 D.size, .int .i64 D.op, .int .i64 ((D.begin_ i).1.n : Int), .bool D.down], .int .i64 0, .int .i64 (D.begin_ i).2]) ?_ rfl ?_
  · exact results_dev3 (fn := Try.f48) (p := 6) (u := 7) (x := 8) (g := w.heap.size + 1 + 1) rfl _ _ _ _ _ _ _ _ rfl rfl rfl (Blk.set5 KS1.out _ _ _ _ _)
  · rw [hfin.out]
    rcases begin_fst D i with e | e
    · rw [e]
      obtain ⟨q1, q2⟩ := stored5' (r := w.heap.size + 1 + 1) (v0 := .slice A D.zs.length c) (v1 := .int .i64 D.size) (v2 := .int .i64 D.op) (v3 := .int .i64 (D.n : Int)) (v4 := .bool D.down) HBS.out HRS.out (by omega)
      exact ⟨A, c, es, rfl, q1, q2⟩
    · rw [e]
      obtain ⟨q1, q2⟩ := stored5' (r := w.heap.size + 1 + 1) (v0 := .slice A D.zs.length c) (v1 := .int .i64 D.size) (v2 := .int .i64 D.op) (v3 := .int .i64 (D.tick.n : Int)) (v4 := .bool D.down) HBS.out HRS.out (by omega)
      exact ⟨A, c, es, rfl, q1.tick, q2⟩
set_option maxRecDepth 100000 in
set_option maxHeartbeats 2000000 in
theorem append_open (h : RefIs w D A c es G) (hn : D.n < 65536) (hl : D.zs.length < 65536) (hL : ∀ x ∈ D.zs, x.L.length < 65536) (k : Nat) (s : Sec) (hd : ¬ D.down = true) (hk : k < D.zs.length) (hz : D.zs[k].state = 0) (ho : D.op ≤ (D.opened : Int)) : Calls Try.prog 48 #[.agg #[.slice A D.zs.length c, .int .i64 D.size, .int .i64 D.op, .int .i64 (D.n : Int), .bool D.down], .int .i64 (k : Int), s.agg] w (Gave3 w G (D.append (k : Int) s).1 (D.append (k : Int) s).2.1 (D.append (k : Int) s).2.2) := by
  have hfin := hide (Dv.append_open s hd hk hz ho)
  have ez : (D.zs[k].state == 0) = true := beq_iff_eq.2 hz
  have eo : decide (D.op ≤ (D.opened : Int)) = true := decide_eq_true ho
  have Hbe := hide (Dv.begin_in k hd hk)
  clear hd hz ho
  have hB : Below w.heap.size w (((w.alloc (.cells #[.slice A D.zs.length c, .int .i64 D.size, .int .i64 D.op, .int .i64 (D.n : Int), .bool D.down] 31)).alloc (.cells s.cs.toArray 33)).alloc (.cells #[.slice none 0 0, .int .i64 0, .int .i64 0, .int .i64 0, .bool false] 31)) := (((Below.refl _ w).alloc (Nat.le_refl _) _).alloc (by simp) _).alloc (by simp; omega) _
  have k0 := ((Blk.new w 31 #[.slice A D.zs.length c, .int .i64 D.size, .int .i64 D.op, .int .i64 (D.n : Int), .bool D.down]).alloc (.cells s.cs.toArray 33)).alloc (.cells #[.slice none 0 0, .int .i64 0, .int .i64 0, .int .i64 0, .bool false] 31)
  have kp := (Blk.new (w.alloc (.cells #[.slice A D.zs.length c, .int .i64 D.size, .int .i64 D.op, .int .i64 (D.n : Int), .bool D.down] 31)) 33 s.cs.toArray).alloc (.cells #[.slice none 0 0, .int .i64 0, .int .i64 0, .int .i64 0, .bool false] 31)
  have k1 := Blk.new ((w.alloc (.cells #[.slice A D.zs.length c, .int .i64 D.size, .int .i64 D.op, .int .i64 (D.n : Int), .bool D.down] 31)).alloc (.cells s.cs.toArray 33)) 31 #[.slice none 0 0, .int .i64 0, .int .i64 0, .int .i64 0, .bool false]
  rw [World.size_alloc] at kp
  rw [World.size_alloc, World.size_alloc] at k1
  have h' := hide h
  have Hl := hide hl
  have HLen := hide hL
  have Hn := hide hn
  clear h hl hL hn
  unfold Sec.agg
  go_enter Try.func48, Try.ntmps48
  go_wp2_with fail
  generalize hW : World.alloc (World.alloc (World.alloc w _) _) _ = W2
  have hW' : (((w.alloc (.cells #[.slice A D.zs.length c, .int .i64 D.size, .int .i64 D.op, .int .i64 (D.n : Int), .bool D.down] 31)).alloc (.cells s.cs.toArray 33)).alloc (.cells #[.slice none 0 0, .int .i64 0, .int .i64 0, .int .i64 0, .bool false] 31)) = W2 := hW
  rw [hW'] at hB k0 kp k1
  clear hW hW'
  have HB := hide hB
  have K0 := hide k0
  have Kp := hide kp
  have K1 := hide k1
  have Hbg := begin_any D A c (k : Int) W2 Hn.out
  rw [Hbe.out] at Hbg
  have Hbg := hide Hbg
  clear hB k0 kp k1
  refine Hbg.out.mono ?_
  rintro e w1 ⟨rfl, hb1⟩
  have k01 : Blk w1 w.heap.size 31 _ := (hb1.block _ K0.out.lt).trans K0.out
  obtain ⟨y0, y1, y2, y3, y4, fy0, fy1, fy2, fy3, fy4⟩ := k01.five
  have Haft := hide (after5 (.slice A D.zs.length c) (.int .i64 D.size) (.int .i64 D.op) (.int .i64 ((D.tick.n : Nat) : Int)) (.bool D.down) HB.out (Nat.le_refl _) K0.out h'.out hb1)
  clear hb1 k01 Hbg
  go_upto_region 2 with (fail)
  obtain ⟨KS, hbs, hrs, Hoth⟩ := Haft.out
  have KSp := hide (Hoth (w.heap.size + 1) _ _ (by omega) Kp.out)
  have KS1 := hide (Hoth (w.heap.size + 1 + 1) _ _ (by omega) K1.out)
  have KS0 := hide KS
  have HBS := hide hbs
  have HRS := hide hrs
  clear KS hbs hrs Hoth Haft y0 y1 y2 y3 y4 fy0 fy1 fy2 fy3 fy4 K0 K1 Kp
  generalize ((((w1.setCell _ _).setCell _ _).setCell _ _).setCell _ _).setCell _ _ = wS at KS0 KS1 KSp HBS HRS ⊢
  obtain ⟨s0, s1, s2, s3, s4, -⟩ := KS0.out.five
  obtain ⟨r0, r1, r2, r3, r4, g0, g1, g2, g3, g4⟩ := KS1.out.five
  obtain ⟨g, rfl, hlc, hgl, hk', hez, x0, x1, x2, x3⟩ := HRS.out.at_ hk
  have Hez := hide hez
  clear hez
  go_upto_region 5 with (fail)
  have hbl0 : w.heap.size < wS.heap.size := KS0.out.lt
  have kz := Blk.new wS 93 #[.slice es[k].a D.zs[k].L.length es[k].c, .int .i64 (D.zs[k].safe : Int), .int .i64 D.zs[k].state, .bool D.zs[k].fin]
  have hbz : Below wS.heap.size wS (wS.alloc (.cells #[.slice es[k].a D.zs[k].L.length es[k].c, .int .i64 (D.zs[k].safe : Int), .int .i64 D.zs[k].state, .bool D.zs[k].fin] 93)) := (Below.refl _ wS).alloc (Nat.le_refl _) _
  have kV := (hbz.block _ KS0.out.lt).trans KS0.out
  have kT := (hbz.block _ KS1.out.lt).trans KS1.out
  have kU := (hbz.block _ KSp.out.lt).trans KSp.out
  have KT := hide (show Blk _ (w.heap.size + 1 + 1) 31 _ from kT)
  have KU := hide (show Blk _ (w.heap.size + 1) 33 _ from kU)
  have KV := hide (show Blk _ w.heap.size 31 _ from kV)
  have KZ := hide kz
  have HT := hide (HBS.out.trans (hbz.mono HBS.out.size))
  have HRT := hide (HRS.out.below hbz)
  clear kT kU kV hbz kz s0 s1 s2 s3 s4 r0 r1 r2 r3 r4 g0 g1 g2 g3 g4 x0 x1 x2 x3
  generalize (wS.alloc (.cells #[.slice es[k].a D.zs[k].L.length es[k].c, .int .i64 (D.zs[k].safe : Int), .int .i64 D.zs[k].state, .bool D.zs[k].fin] 93)) = wZ at KT KU KV KZ HT HRT ⊢
  have Hzs := hide (show w.heap.size + 1 + 1 < wS.heap.size from KS1.out.lt)
  have Hg : Hid (g < wS.heap.size) := hide hgl
  clear KS0 KS1 KSp HRS hgl
  obtain ⟨bz, hbzq⟩ : ∃ b, b = wS.heap.size := ⟨_, rfl⟩
  rw [← hbzq] at KZ Hzs Hg ⊢
  have Hbz := hide hbzq
  clear hbzq hbl0
  obtain ⟨s0, s1, s2, s3, s4, -⟩ := KV.out.five
  obtain ⟨r0, r1, r2, r3, r4, g0, g1, g2, g3, g4⟩ := KT.out.five
  obtain ⟨x0, x1, x2, x3, -⟩ := KZ.out.four
  have Hop : Hid (Calls Try.prog 85 #[.agg #[.slice (some ⟨g, 0, none⟩) D.zs.length c, .int .i64 D.size, .int .i64 D.op, .int .i64 (D.tick.n : Int), .bool D.down]] wZ.drew fun e w' => e = .returned (.int .i64 (D.opened : Int)) ∧ wZ.drew.alloc (.cells #[.slice (some ⟨g, 0, none⟩) D.zs.length c, .int .i64 D.size, .int .i64 D.op, .int .i64 (D.tick.n : Int), .bool D.down] 31) = w') := hide (opened_any (D := D.tick) (HRT.out.below (Below.refl wZ.heap.size wZ).drew).tick Hl.out)
  go_region_held3 (fun w' => w'.cell? ⟨w.heap.size, 0, none⟩ = some (.slice (some ⟨g, 0, none⟩) D.zs.length c) ∧ w'.cell? ⟨w.heap.size, 1, none⟩ = some (.int .i64 D.size) ∧ w'.cell? ⟨w.heap.size, 2, none⟩ = some (.int .i64 D.op) ∧ w'.cell? ⟨w.heap.size, 3, none⟩ = some (.int .i64 (D.tick.n : Int)) ∧ w'.cell? ⟨w.heap.size, 4, none⟩ = some (.bool D.down) ∧ w'.cell? ⟨bz, 0, none⟩ = some (.slice es[k].a D.zs[k].L.length es[k].c) ∧ w'.cell? ⟨bz, 1, none⟩ = some (.int .i64 (D.zs[k].safe : Int)) ∧ w'.cell? ⟨bz, 2, none⟩ = some (.int .i64 D.zs[k].state) ∧ w'.cell? ⟨bz, 3, none⟩ = some (.bool D.zs[k].fin)) (go_keep)
    (first | (go_at_call 85; refine Hop.out.mono ?_; rintro e w' ⟨rfl, rfl⟩))
  go_upto_region 6 with (fail)
  have hbY : Below wZ.heap.size wZ (wZ.alloc (.cells #[.slice (some ⟨g, 0, none⟩) D.zs.length c, .int .i64 D.size, .int .i64 D.op, .int .i64 (D.tick.n : Int), .bool D.down] 31)).drew := ((Below.refl _ wZ).alloc (Nat.le_refl _) _).drew
  have kT := (hbY.block _ KT.out.lt).trans KT.out
  have kU := (hbY.block _ KU.out.lt).trans KU.out
  have kV := (hbY.block _ KV.out.lt).trans KV.out
  have kZ := (hbY.block _ KZ.out.lt).trans KZ.out
  have hT := HT.out.trans (hbY.mono HT.out.size)
  have hRT := HRT.out.below hbY
  clear s0 s1 s2 s3 s4 r0 r1 r2 r3 r4 g0 g1 g2 g3 g4 x0 x1 x2 x3 KT KU KV KZ HT HRT
  have KT := hide (show Blk (wZ.alloc (.cells #[.slice (some ⟨g, 0, none⟩) D.zs.length c, .int .i64 D.size, .int .i64 D.op, .int .i64 (D.tick.n : Int), .bool D.down] 31)).drew (w.heap.size + 1 + 1) 31 _ from kT)
  have KU := hide (show Blk (wZ.alloc (.cells #[.slice (some ⟨g, 0, none⟩) D.zs.length c, .int .i64 D.size, .int .i64 D.op, .int .i64 (D.tick.n : Int), .bool D.down] 31)).drew (w.heap.size + 1) 33 _ from kU)
  have KV := hide (show Blk (wZ.alloc (.cells #[.slice (some ⟨g, 0, none⟩) D.zs.length c, .int .i64 D.size, .int .i64 D.op, .int .i64 (D.tick.n : Int), .bool D.down] 31)).drew w.heap.size 31 _ from kV)
  have KZ := hide (show Blk (wZ.alloc (.cells #[.slice (some ⟨g, 0, none⟩) D.zs.length c, .int .i64 D.size, .int .i64 D.op, .int .i64 (D.tick.n : Int), .bool D.down] 31)).drew bz 93 _ from kZ)
  have HT := hide hT
  have HRT := hide hRT
  clear kT kU kV kZ hT hRT
  clear hbY Hop
  generalize (wZ.alloc (.cells #[.slice (some ⟨g, 0, none⟩) D.zs.length c, .int .i64 D.size, .int .i64 D.op, .int .i64 (D.tick.n : Int), .bool D.down] 31)).drew = wY at KT KU KV KZ HT HRT ⊢
  obtain ⟨s0, s1, s2, s3, s4, -⟩ := KV.out.five
  obtain ⟨r0, r1, r2, r3, r4, g0, g1, g2, g3, g4⟩ := KT.out.five
  obtain ⟨x0, x1, x2, x3, -⟩ := KZ.out.four
  go_wp2_with fail
  refine bodyPost_ret (v := .tuple #[.agg #[.slice (some ⟨g, 0, none⟩) D.zs.length c, .int .i64 D.size, .int .i64 D.op, .int .i64 (D.tick.n : Int), .bool D.down], .int .i64 0, .int .i64 33]) ?_ rfl ?_
  · exact results_dev3 (fn := Try.f48) (p := 6) (u := 7) (x := 8) (g := w.heap.size + 1 + 1) rfl _ _ _ _ _ _ _ _ rfl rfl rfl (Blk.set5 KT.out _ _ _ _ _)
  · rw [hfin.out]
    obtain ⟨q1, q2⟩ := stored5' (r := w.heap.size + 1 + 1) (v0 := .slice (some ⟨g, 0, none⟩) D.zs.length c) (v1 := .int .i64 D.size) (v2 := .int .i64 D.op) (v3 := .int .i64 (D.tick.n : Int)) (v4 := .bool D.down) HT.out HRT.out (by omega)
    exact ⟨(some ⟨g, 0, none⟩), c, es, rfl, q1.tick, q2⟩
set_option maxRecDepth 100000 in
set_option maxHeartbeats 2000000 in
theorem append_failed (h : RefIs w D A c es G) (hn : D.n < 65536) (hl : D.zs.length < 65536) (hL : ∀ x ∈ D.zs, x.L.length < 65536) (k : Nat) (s : Sec) (hd : ¬ D.down = true) (hk : k < D.zs.length) (hf : ¬ failedOf D.zs[k].state = 0) : Calls Try.prog 48 #[.agg #[.slice A D.zs.length c, .int .i64 D.size, .int .i64 D.op, .int .i64 (D.n : Int), .bool D.down], .int .i64 (k : Int), s.agg] w (Gave3 w G (D.append (k : Int) s).1 (D.append (k : Int) s).2.1 (D.append (k : Int) s).2.2) := by
  have hz : ¬ D.zs[k].state = 0 := fun e => hf (by rw [e]; rfl)
  have hfin0 := hide (Dv.append_in s hd hk (fun h => hz h.1))
  have hfin1 := hide (Zn.append_failed (z := D.zs[k]) s hf)
  have hfin : Hid (D.append (k : Int) s = (D.tick, 0, failedOf D.zs[k].state)) := hide (by rw [hfin0.out, hfin1.out]; dsimp only; rw [show D.tick.put k D.zs[k] = D.tick from put_same (D := D.tick) k hk])
  clear hfin0 hfin1
  have ez : (D.zs[k].state == 0) = false := beq_eq_false_iff_ne.2 hz
  have ef : (failedOf D.zs[k].state != 0) = true := by simpa using hf
  have Hbe := hide (Dv.begin_in k hd hk)
  clear hd hz hf
  have hB : Below w.heap.size w (((w.alloc (.cells #[.slice A D.zs.length c, .int .i64 D.size, .int .i64 D.op, .int .i64 (D.n : Int), .bool D.down] 31)).alloc (.cells s.cs.toArray 33)).alloc (.cells #[.slice none 0 0, .int .i64 0, .int .i64 0, .int .i64 0, .bool false] 31)) := (((Below.refl _ w).alloc (Nat.le_refl _) _).alloc (by simp) _).alloc (by simp; omega) _
  have k0 := ((Blk.new w 31 #[.slice A D.zs.length c, .int .i64 D.size, .int .i64 D.op, .int .i64 (D.n : Int), .bool D.down]).alloc (.cells s.cs.toArray 33)).alloc (.cells #[.slice none 0 0, .int .i64 0, .int .i64 0, .int .i64 0, .bool false] 31)
  have kp := (Blk.new (w.alloc (.cells #[.slice A D.zs.length c, .int .i64 D.size, .int .i64 D.op, .int .i64 (D.n : Int), .bool D.down] 31)) 33 s.cs.toArray).alloc (.cells #[.slice none 0 0, .int .i64 0, .int .i64 0, .int .i64 0, .bool false] 31)
  have k1 := Blk.new ((w.alloc (.cells #[.slice A D.zs.length c, .int .i64 D.size, .int .i64 D.op, .int .i64 (D.n : Int), .bool D.down] 31)).alloc (.cells s.cs.toArray 33)) 31 #[.slice none 0 0, .int .i64 0, .int .i64 0, .int .i64 0, .bool false]
  rw [World.size_alloc] at kp
  rw [World.size_alloc, World.size_alloc] at k1
  have h' := hide h
  have Hl := hide hl
  have HLen := hide hL
  have Hn := hide hn
  clear h hl hL hn
  unfold Sec.agg
  go_enter Try.func48, Try.ntmps48
  go_wp2_with fail
  generalize hW : World.alloc (World.alloc (World.alloc w _) _) _ = W2
  have hW' : (((w.alloc (.cells #[.slice A D.zs.length c, .int .i64 D.size, .int .i64 D.op, .int .i64 (D.n : Int), .bool D.down] 31)).alloc (.cells s.cs.toArray 33)).alloc (.cells #[.slice none 0 0, .int .i64 0, .int .i64 0, .int .i64 0, .bool false] 31)) = W2 := hW
  rw [hW'] at hB k0 kp k1
  clear hW hW'
  have HB := hide hB
  have K0 := hide k0
  have Kp := hide kp
  have K1 := hide k1
  have Hbg := begin_any D A c (k : Int) W2 Hn.out
  rw [Hbe.out] at Hbg
  have Hbg := hide Hbg
  clear hB k0 kp k1
  refine Hbg.out.mono ?_
  rintro e w1 ⟨rfl, hb1⟩
  have k01 : Blk w1 w.heap.size 31 _ := (hb1.block _ K0.out.lt).trans K0.out
  obtain ⟨y0, y1, y2, y3, y4, fy0, fy1, fy2, fy3, fy4⟩ := k01.five
  have Haft := hide (after5 (.slice A D.zs.length c) (.int .i64 D.size) (.int .i64 D.op) (.int .i64 ((D.tick.n : Nat) : Int)) (.bool D.down) HB.out (Nat.le_refl _) K0.out h'.out hb1)
  clear hb1 k01 Hbg
  go_upto_region 2 with (fail)
  obtain ⟨KS, hbs, hrs, Hoth⟩ := Haft.out
  have KSp := hide (Hoth (w.heap.size + 1) _ _ (by omega) Kp.out)
  have KS1 := hide (Hoth (w.heap.size + 1 + 1) _ _ (by omega) K1.out)
  have KS0 := hide KS
  have HBS := hide hbs
  have HRS := hide hrs
  clear KS hbs hrs Hoth Haft y0 y1 y2 y3 y4 fy0 fy1 fy2 fy3 fy4 K0 K1 Kp
  generalize ((((w1.setCell _ _).setCell _ _).setCell _ _).setCell _ _).setCell _ _ = wS at KS0 KS1 KSp HBS HRS ⊢
  obtain ⟨s0, s1, s2, s3, s4, -⟩ := KS0.out.five
  obtain ⟨r0, r1, r2, r3, r4, g0, g1, g2, g3, g4⟩ := KS1.out.five
  obtain ⟨g, rfl, hlc, hgl, hk', hez, x0, x1, x2, x3⟩ := HRS.out.at_ hk
  have Hez := hide hez
  clear hez
  go_upto_region 5 with (fail)
  have hbl0 : w.heap.size < wS.heap.size := KS0.out.lt
  have kz := Blk.new wS 93 #[.slice es[k].a D.zs[k].L.length es[k].c, .int .i64 (D.zs[k].safe : Int), .int .i64 D.zs[k].state, .bool D.zs[k].fin]
  have hbz : Below wS.heap.size wS (wS.alloc (.cells #[.slice es[k].a D.zs[k].L.length es[k].c, .int .i64 (D.zs[k].safe : Int), .int .i64 D.zs[k].state, .bool D.zs[k].fin] 93)) := (Below.refl _ wS).alloc (Nat.le_refl _) _
  have kV := (hbz.block _ KS0.out.lt).trans KS0.out
  have kT := (hbz.block _ KS1.out.lt).trans KS1.out
  have kU := (hbz.block _ KSp.out.lt).trans KSp.out
  have KT := hide (show Blk _ (w.heap.size + 1 + 1) 31 _ from kT)
  have KU := hide (show Blk _ (w.heap.size + 1) 33 _ from kU)
  have KV := hide (show Blk _ w.heap.size 31 _ from kV)
  have KZ := hide kz
  have HT := hide (HBS.out.trans (hbz.mono HBS.out.size))
  have HRT := hide (HRS.out.below hbz)
  clear kT kU kV hbz kz s0 s1 s2 s3 s4 r0 r1 r2 r3 r4 g0 g1 g2 g3 g4 x0 x1 x2 x3
  generalize (wS.alloc (.cells #[.slice es[k].a D.zs[k].L.length es[k].c, .int .i64 (D.zs[k].safe : Int), .int .i64 D.zs[k].state, .bool D.zs[k].fin] 93)) = wZ at KT KU KV KZ HT HRT ⊢
  have Hzs := hide (show w.heap.size + 1 + 1 < wS.heap.size from KS1.out.lt)
  have Hg : Hid (g < wS.heap.size) := hide hgl
  clear KS0 KS1 KSp HRS hgl
  obtain ⟨bz, hbzq⟩ : ∃ b, b = wS.heap.size := ⟨_, rfl⟩
  rw [← hbzq] at KZ Hzs Hg ⊢
  have Hbz := hide hbzq
  clear hbzq hbl0
  obtain ⟨s0, s1, s2, s3, s4, -⟩ := KV.out.five
  obtain ⟨r0, r1, r2, r3, r4, g0, g1, g2, g3, g4⟩ := KT.out.five
  obtain ⟨x0, x1, x2, x3, -⟩ := KZ.out.four
  go_quiet (fail)
  go_upto_region 7 with (fail)
  have hbY : Below wZ.heap.size wZ (wZ.drewN nq) := ((Mods.refl (fun _ => False) wZ).drewN nq).below (Nat.le_refl _) (fun _ h => h.elim)
  have kT := (hbY.block _ KT.out.lt).trans KT.out
  have kU := (hbY.block _ KU.out.lt).trans KU.out
  have kV := (hbY.block _ KV.out.lt).trans KV.out
  have kZ := (hbY.block _ KZ.out.lt).trans KZ.out
  have hT := HT.out.trans (hbY.mono HT.out.size)
  have hRT := HRT.out.below hbY
  clear s0 s1 s2 s3 s4 r0 r1 r2 r3 r4 g0 g1 g2 g3 g4 x0 x1 x2 x3 KT KU KV KZ HT HRT
  have KT := hide (show Blk (wZ.drewN nq) (w.heap.size + 1 + 1) 31 _ from kT)
  have KU := hide (show Blk (wZ.drewN nq) (w.heap.size + 1) 33 _ from kU)
  have KV := hide (show Blk (wZ.drewN nq) w.heap.size 31 _ from kV)
  have KZ := hide (show Blk (wZ.drewN nq) bz 93 _ from kZ)
  have HT := hide hT
  have HRT := hide hRT
  clear kT kU kV kZ hT hRT
  clear hbY
  generalize wZ.drewN nq = wY at KT KU KV KZ HT HRT ⊢
  obtain ⟨s0, s1, s2, s3, s4, -⟩ := KV.out.five
  obtain ⟨r0, r1, r2, r3, r4, g0, g1, g2, g3, g4⟩ := KT.out.five
  obtain ⟨x0, x1, x2, x3, -⟩ := KZ.out.four
  go_upto_region 8 with (go_at_call 86; refine (failed_any _ _ _ _ _ _ _).mono ?_; rintro e w' ⟨rfl, rfl⟩)
  have hbV : Below wY.heap.size wY (wY.alloc (.cells #[.slice es[k].a D.zs[k].L.length es[k].c, .int .i64 (D.zs[k].safe : Int), .int .i64 D.zs[k].state, .bool D.zs[k].fin] 93)) := (Below.refl _ wY).alloc (Nat.le_refl _) _
  have kT := (hbV.block _ KT.out.lt).trans KT.out
  have kU := (hbV.block _ KU.out.lt).trans KU.out
  have kV := (hbV.block _ KV.out.lt).trans KV.out
  have kZ := (hbV.block _ KZ.out.lt).trans KZ.out
  have hT := HT.out.trans (hbV.mono HT.out.size)
  have hRT := HRT.out.below hbV
  clear s0 s1 s2 s3 s4 r0 r1 r2 r3 r4 g0 g1 g2 g3 g4 x0 x1 x2 x3 KT KU KV KZ HT HRT
  have KT := hide (show Blk (wY.alloc (.cells #[.slice es[k].a D.zs[k].L.length es[k].c, .int .i64 (D.zs[k].safe : Int), .int .i64 D.zs[k].state, .bool D.zs[k].fin] 93)) (w.heap.size + 1 + 1) 31 _ from kT)
  have KU := hide (show Blk (wY.alloc (.cells #[.slice es[k].a D.zs[k].L.length es[k].c, .int .i64 (D.zs[k].safe : Int), .int .i64 D.zs[k].state, .bool D.zs[k].fin] 93)) (w.heap.size + 1) 33 _ from kU)
  have KV := hide (show Blk (wY.alloc (.cells #[.slice es[k].a D.zs[k].L.length es[k].c, .int .i64 (D.zs[k].safe : Int), .int .i64 D.zs[k].state, .bool D.zs[k].fin] 93)) w.heap.size 31 _ from kV)
  have KZ := hide (show Blk (wY.alloc (.cells #[.slice es[k].a D.zs[k].L.length es[k].c, .int .i64 (D.zs[k].safe : Int), .int .i64 D.zs[k].state, .bool D.zs[k].fin] 93)) bz 93 _ from kZ)
  have HT := hide hT
  have HRT := hide hRT
  clear kT kU kV kZ hT hRT
  clear hbV
  generalize (wY.alloc (.cells #[.slice es[k].a D.zs[k].L.length es[k].c, .int .i64 (D.zs[k].safe : Int), .int .i64 D.zs[k].state, .bool D.zs[k].fin] 93)) = wV at KT KU KV KZ HT HRT ⊢
  obtain ⟨s0, s1, s2, s3, s4, -⟩ := KV.out.five
  obtain ⟨r0, r1, r2, r3, r4, g0, g1, g2, g3, g4⟩ := KT.out.five
  obtain ⟨x0, x1, x2, x3, -⟩ := KZ.out.four
  have hS9 : Hid (∀ w', Below wV.heap.size wV w' → w'.cell? ⟨w.heap.size, 0, none⟩ = some (.slice (some ⟨g, 0, none⟩) D.zs.length c) ∧ w'.cell? ⟨w.heap.size, 1, none⟩ = some (.int .i64 D.size) ∧ w'.cell? ⟨w.heap.size, 2, none⟩ = some (.int .i64 D.op) ∧ w'.cell? ⟨w.heap.size, 3, none⟩ = some (.int .i64 (D.tick.n : Int)) ∧ w'.cell? ⟨w.heap.size, 4, none⟩ = some (.bool D.down) ∧ w'.cell? ⟨bz, 0, none⟩ = some (.slice es[k].a D.zs[k].L.length es[k].c) ∧ w'.cell? ⟨bz, 1, none⟩ = some (.int .i64 (D.zs[k].safe : Int)) ∧ w'.cell? ⟨bz, 2, none⟩ = some (.int .i64 D.zs[k].state) ∧ w'.cell? ⟨bz, 3, none⟩ = some (.bool D.zs[k].fin)) := hide (fun w' hV => by
    obtain ⟨s0, s1, s2, s3, s4, -⟩ := Blk.five ((hV.block _ KV.out.lt).trans KV.out)
    obtain ⟨x0, x1, x2, x3, -⟩ := Blk.four ((hV.block _ KZ.out.lt).trans KZ.out)
    exact ⟨s0, s1, s2, s3, s4, x0, x1, x2, x3⟩)
  clear s0 s1 s2 s3 s4 r0 r1 r2 r3 r4 g0 g1 g2 g3 g4 x0 x1 x2 x3
  refine Reg.wp_region_reads (fun w' => w'.cell? ⟨w.heap.size, 0, none⟩ = some (.slice (some ⟨g, 0, none⟩) D.zs.length c) ∧ w'.cell? ⟨w.heap.size, 1, none⟩ = some (.int .i64 D.size) ∧ w'.cell? ⟨w.heap.size, 2, none⟩ = some (.int .i64 D.op) ∧ w'.cell? ⟨w.heap.size, 3, none⟩ = some (.int .i64 (D.tick.n : Int)) ∧ w'.cell? ⟨w.heap.size, 4, none⟩ = some (.bool D.down) ∧ w'.cell? ⟨bz, 0, none⟩ = some (.slice es[k].a D.zs[k].L.length es[k].c) ∧ w'.cell? ⟨bz, 1, none⟩ = some (.int .i64 (D.zs[k].safe : Int)) ∧ w'.cell? ⟨bz, 2, none⟩ = some (.int .i64 D.zs[k].state) ∧ w'.cell? ⟨bz, 3, none⟩ = some (.bool D.zs[k].fin)) 2 3 (by decide +kernel) (by decide +kernel) (hS9.out _ (Below.refl _ wV).drew) ?_
  simp only [List.take_succ_cons, List.take_zero, List.drop_succ_cons, List.drop_zero]
  iterate 2
    apply Reg.wpReads_step rfl
    · intro w' hS
      obtain ⟨q0, q1, q2, q3, q4, q5, q6, q7, q8⟩ := hS
      go_simp
      first | done | rfl
    intro K hK
    go_simp
    refine hK _ ?_
    clear hK K
  refine Reg.wpReads_nil ?_
  refine Reg.wpTail_step rfl (fun K hK => ?_)
  go_simp
  refine (failed_any _ _ _ _ _ _ _).mono ?_
  rintro e w2 ⟨rfl, hW⟩
  have hb2 : Below wV.heap.size wV w2 := by rw [← hW]; exact ((Below.refl _ wV).drew).alloc (Nat.le_refl _) _
  clear hW
  go_simp
  refine hK _ _ (fun _ => hS9.out _ hb2) ?_
  clear hK K
  refine Reg.wpTail_list _ _ _ _ (by omega) ?_
  have kX := (hb2.block _ KT.out.lt).trans KT.out
  have KX : Hid (Blk w2 (w.heap.size + 1 + 1) 31 _) := hide kX
  obtain ⟨q0, q1, q2, q3, q4, p0, p1, p2, p3, p4⟩ := KX.out.five
  have HX := hide (HT.out.trans (hb2.mono HT.out.size))
  have HRX := hide (HRT.out.below hb2)
  clear hb2 kX
  go_wp2_with fail
  refine NoPanic.normal ?_
  go_wp2_with fail
  refine bodyPost_ret (v := .tuple #[.agg #[.slice (some ⟨g, 0, none⟩) D.zs.length c, .int .i64 D.size, .int .i64 D.op, .int .i64 (D.tick.n : Int), .bool D.down], .int .i64 0, .int .i64 (failedOf D.zs[k].state)]) ?_ rfl ?_
  · exact results_dev3 (fn := Try.f48) (p := 6) (u := 7) (x := 8) (g := w.heap.size + 1 + 1) rfl _ _ _ _ _ _ _ _ rfl rfl rfl (Blk.set5 KX.out _ _ _ _ _)
  · rw [hfin.out]
    obtain ⟨q1, q2⟩ := stored5' (r := w.heap.size + 1 + 1) (v0 := .slice (some ⟨g, 0, none⟩) D.zs.length c) (v1 := .int .i64 D.size) (v2 := .int .i64 D.op) (v3 := .int .i64 (D.tick.n : Int)) (v4 := .bool D.down) HX.out HRX.out (by omega)
    exact ⟨(some ⟨g, 0, none⟩), c, es, rfl, q1.tick, q2⟩
set_option maxRecDepth 100000 in
set_option maxHeartbeats 2000000 in
theorem append_full (h : RefIs w D A c es G) (hn : D.n < 65536) (hl : D.zs.length < 65536) (hL : ∀ x ∈ D.zs, x.L.length < 65536) (k : Nat) (s : Sec) (hd : ¬ D.down = true) (hk : k < D.zs.length) (hf : failedOf D.zs[k].state = 0) (h2 : D.zs[k].state = 2) : Calls Try.prog 48 #[.agg #[.slice A D.zs.length c, .int .i64 D.size, .int .i64 D.op, .int .i64 (D.n : Int), .bool D.down], .int .i64 (k : Int), s.agg] w (Gave3 w G (D.append (k : Int) s).1 (D.append (k : Int) s).2.1 (D.append (k : Int) s).2.2) := by
  have hz : ¬ D.zs[k].state = 0 := by omega
  have hfin0 := hide (Dv.append_in s hd hk (fun h => hz h.1))
  have hfin1 := hide (Zn.append_full (z := D.zs[k]) s hf h2)
  have hfin : Hid (D.append (k : Int) s = (D.tick, 0, 17)) := hide (by rw [hfin0.out, hfin1.out]; dsimp only; rw [show D.tick.put k D.zs[k] = D.tick from put_same (D := D.tick) k hk])
  clear hfin0 hfin1
  have e2 : (D.zs[k].state == 2) = true := beq_iff_eq.2 h2
  have ez : (D.zs[k].state == 0) = false := beq_eq_false_iff_ne.2 hz
  have ef : (failedOf D.zs[k].state != 0) = false := by simp [hf]
  have Hbe := hide (Dv.begin_in k hd hk)
  clear hd hz hf h2
  have hB : Below w.heap.size w (((w.alloc (.cells #[.slice A D.zs.length c, .int .i64 D.size, .int .i64 D.op, .int .i64 (D.n : Int), .bool D.down] 31)).alloc (.cells s.cs.toArray 33)).alloc (.cells #[.slice none 0 0, .int .i64 0, .int .i64 0, .int .i64 0, .bool false] 31)) := (((Below.refl _ w).alloc (Nat.le_refl _) _).alloc (by simp) _).alloc (by simp; omega) _
  have k0 := ((Blk.new w 31 #[.slice A D.zs.length c, .int .i64 D.size, .int .i64 D.op, .int .i64 (D.n : Int), .bool D.down]).alloc (.cells s.cs.toArray 33)).alloc (.cells #[.slice none 0 0, .int .i64 0, .int .i64 0, .int .i64 0, .bool false] 31)
  have kp := (Blk.new (w.alloc (.cells #[.slice A D.zs.length c, .int .i64 D.size, .int .i64 D.op, .int .i64 (D.n : Int), .bool D.down] 31)) 33 s.cs.toArray).alloc (.cells #[.slice none 0 0, .int .i64 0, .int .i64 0, .int .i64 0, .bool false] 31)
  have k1 := Blk.new ((w.alloc (.cells #[.slice A D.zs.length c, .int .i64 D.size, .int .i64 D.op, .int .i64 (D.n : Int), .bool D.down] 31)).alloc (.cells s.cs.toArray 33)) 31 #[.slice none 0 0, .int .i64 0, .int .i64 0, .int .i64 0, .bool false]
  rw [World.size_alloc] at kp
  rw [World.size_alloc, World.size_alloc] at k1
  have h' := hide h
  have Hl := hide hl
  have HLen := hide hL
  have Hn := hide hn
  clear h hl hL hn
  unfold Sec.agg
  go_enter Try.func48, Try.ntmps48
  go_wp2_with fail
  generalize hW : World.alloc (World.alloc (World.alloc w _) _) _ = W2
  have hW' : (((w.alloc (.cells #[.slice A D.zs.length c, .int .i64 D.size, .int .i64 D.op, .int .i64 (D.n : Int), .bool D.down] 31)).alloc (.cells s.cs.toArray 33)).alloc (.cells #[.slice none 0 0, .int .i64 0, .int .i64 0, .int .i64 0, .bool false] 31)) = W2 := hW
  rw [hW'] at hB k0 kp k1
  clear hW hW'
  have HB := hide hB
  have K0 := hide k0
  have Kp := hide kp
  have K1 := hide k1
  have Hbg := begin_any D A c (k : Int) W2 Hn.out
  rw [Hbe.out] at Hbg
  have Hbg := hide Hbg
  clear hB k0 kp k1
  refine Hbg.out.mono ?_
  rintro e w1 ⟨rfl, hb1⟩
  have k01 : Blk w1 w.heap.size 31 _ := (hb1.block _ K0.out.lt).trans K0.out
  obtain ⟨y0, y1, y2, y3, y4, fy0, fy1, fy2, fy3, fy4⟩ := k01.five
  have Haft := hide (after5 (.slice A D.zs.length c) (.int .i64 D.size) (.int .i64 D.op) (.int .i64 ((D.tick.n : Nat) : Int)) (.bool D.down) HB.out (Nat.le_refl _) K0.out h'.out hb1)
  clear hb1 k01 Hbg
  go_upto_region 2 with (fail)
  obtain ⟨KS, hbs, hrs, Hoth⟩ := Haft.out
  have KSp := hide (Hoth (w.heap.size + 1) _ _ (by omega) Kp.out)
  have KS1 := hide (Hoth (w.heap.size + 1 + 1) _ _ (by omega) K1.out)
  have KS0 := hide KS
  have HBS := hide hbs
  have HRS := hide hrs
  clear KS hbs hrs Hoth Haft y0 y1 y2 y3 y4 fy0 fy1 fy2 fy3 fy4 K0 K1 Kp
  generalize ((((w1.setCell _ _).setCell _ _).setCell _ _).setCell _ _).setCell _ _ = wS at KS0 KS1 KSp HBS HRS ⊢
  obtain ⟨s0, s1, s2, s3, s4, -⟩ := KS0.out.five
  obtain ⟨r0, r1, r2, r3, r4, g0, g1, g2, g3, g4⟩ := KS1.out.five
  obtain ⟨g, rfl, hlc, hgl, hk', hez, x0, x1, x2, x3⟩ := HRS.out.at_ hk
  have Hez := hide hez
  clear hez
  go_upto_region 5 with (fail)
  have hbl0 : w.heap.size < wS.heap.size := KS0.out.lt
  have kz := Blk.new wS 93 #[.slice es[k].a D.zs[k].L.length es[k].c, .int .i64 (D.zs[k].safe : Int), .int .i64 D.zs[k].state, .bool D.zs[k].fin]
  have hbz : Below wS.heap.size wS (wS.alloc (.cells #[.slice es[k].a D.zs[k].L.length es[k].c, .int .i64 (D.zs[k].safe : Int), .int .i64 D.zs[k].state, .bool D.zs[k].fin] 93)) := (Below.refl _ wS).alloc (Nat.le_refl _) _
  have kV := (hbz.block _ KS0.out.lt).trans KS0.out
  have kT := (hbz.block _ KS1.out.lt).trans KS1.out
  have kU := (hbz.block _ KSp.out.lt).trans KSp.out
  have KT := hide (show Blk _ (w.heap.size + 1 + 1) 31 _ from kT)
  have KU := hide (show Blk _ (w.heap.size + 1) 33 _ from kU)
  have KV := hide (show Blk _ w.heap.size 31 _ from kV)
  have KZ := hide kz
  have HT := hide (HBS.out.trans (hbz.mono HBS.out.size))
  have HRT := hide (HRS.out.below hbz)
  clear kT kU kV hbz kz s0 s1 s2 s3 s4 r0 r1 r2 r3 r4 g0 g1 g2 g3 g4 x0 x1 x2 x3
  generalize (wS.alloc (.cells #[.slice es[k].a D.zs[k].L.length es[k].c, .int .i64 (D.zs[k].safe : Int), .int .i64 D.zs[k].state, .bool D.zs[k].fin] 93)) = wZ at KT KU KV KZ HT HRT ⊢
  have Hzs := hide (show w.heap.size + 1 + 1 < wS.heap.size from KS1.out.lt)
  have Hg : Hid (g < wS.heap.size) := hide hgl
  clear KS0 KS1 KSp HRS hgl
  obtain ⟨bz, hbzq⟩ : ∃ b, b = wS.heap.size := ⟨_, rfl⟩
  rw [← hbzq] at KZ Hzs Hg ⊢
  have Hbz := hide hbzq
  clear hbzq hbl0
  obtain ⟨s0, s1, s2, s3, s4, -⟩ := KV.out.five
  obtain ⟨r0, r1, r2, r3, r4, g0, g1, g2, g3, g4⟩ := KT.out.five
  obtain ⟨x0, x1, x2, x3, -⟩ := KZ.out.four
  go_quiet (fail)
  go_upto_region 7 with (fail)
  have hbY : Below wZ.heap.size wZ (wZ.drewN nq) := ((Mods.refl (fun _ => False) wZ).drewN nq).below (Nat.le_refl _) (fun _ h => h.elim)
  have kT := (hbY.block _ KT.out.lt).trans KT.out
  have kU := (hbY.block _ KU.out.lt).trans KU.out
  have kV := (hbY.block _ KV.out.lt).trans KV.out
  have kZ := (hbY.block _ KZ.out.lt).trans KZ.out
  have hT := HT.out.trans (hbY.mono HT.out.size)
  have hRT := HRT.out.below hbY
  clear s0 s1 s2 s3 s4 r0 r1 r2 r3 r4 g0 g1 g2 g3 g4 x0 x1 x2 x3 KT KU KV KZ HT HRT
  have KT := hide (show Blk (wZ.drewN nq) (w.heap.size + 1 + 1) 31 _ from kT)
  have KU := hide (show Blk (wZ.drewN nq) (w.heap.size + 1) 33 _ from kU)
  have KV := hide (show Blk (wZ.drewN nq) w.heap.size 31 _ from kV)
  have KZ := hide (show Blk (wZ.drewN nq) bz 93 _ from kZ)
  have HT := hide hT
  have HRT := hide hRT
  clear kT kU kV kZ hT hRT
  clear hbY
  generalize wZ.drewN nq = wY at KT KU KV KZ HT HRT ⊢
  obtain ⟨s0, s1, s2, s3, s4, -⟩ := KV.out.five
  obtain ⟨r0, r1, r2, r3, r4, g0, g1, g2, g3, g4⟩ := KT.out.five
  obtain ⟨x0, x1, x2, x3, -⟩ := KZ.out.four
  go_upto_region 9 with (go_at_call 86; refine (failed_any _ _ _ _ _ _ _).mono ?_; rintro e w' ⟨rfl, rfl⟩)
  have hbV : Below wY.heap.size wY (wY.alloc (.cells #[.slice es[k].a D.zs[k].L.length es[k].c, .int .i64 (D.zs[k].safe : Int), .int .i64 D.zs[k].state, .bool D.zs[k].fin] 93)) := (Below.refl _ wY).alloc (Nat.le_refl _) _
  have kT := (hbV.block _ KT.out.lt).trans KT.out
  have kU := (hbV.block _ KU.out.lt).trans KU.out
  have kV := (hbV.block _ KV.out.lt).trans KV.out
  have kZ := (hbV.block _ KZ.out.lt).trans KZ.out
  have hT := HT.out.trans (hbV.mono HT.out.size)
  have hRT := HRT.out.below hbV
  clear s0 s1 s2 s3 s4 r0 r1 r2 r3 r4 g0 g1 g2 g3 g4 x0 x1 x2 x3 KT KU KV KZ HT HRT
  have KT := hide (show Blk (wY.alloc (.cells #[.slice es[k].a D.zs[k].L.length es[k].c, .int .i64 (D.zs[k].safe : Int), .int .i64 D.zs[k].state, .bool D.zs[k].fin] 93)) (w.heap.size + 1 + 1) 31 _ from kT)
  have KU := hide (show Blk (wY.alloc (.cells #[.slice es[k].a D.zs[k].L.length es[k].c, .int .i64 (D.zs[k].safe : Int), .int .i64 D.zs[k].state, .bool D.zs[k].fin] 93)) (w.heap.size + 1) 33 _ from kU)
  have KV := hide (show Blk (wY.alloc (.cells #[.slice es[k].a D.zs[k].L.length es[k].c, .int .i64 (D.zs[k].safe : Int), .int .i64 D.zs[k].state, .bool D.zs[k].fin] 93)) w.heap.size 31 _ from kV)
  have KZ := hide (show Blk (wY.alloc (.cells #[.slice es[k].a D.zs[k].L.length es[k].c, .int .i64 (D.zs[k].safe : Int), .int .i64 D.zs[k].state, .bool D.zs[k].fin] 93)) bz 93 _ from kZ)
  have HT := hide hT
  have HRT := hide hRT
  clear kT kU kV kZ hT hRT
  clear hbV
  generalize (wY.alloc (.cells #[.slice es[k].a D.zs[k].L.length es[k].c, .int .i64 (D.zs[k].safe : Int), .int .i64 D.zs[k].state, .bool D.zs[k].fin] 93)) = wV at KT KU KV KZ HT HRT ⊢
  obtain ⟨s0, s1, s2, s3, s4, -⟩ := KV.out.five
  obtain ⟨r0, r1, r2, r3, r4, g0, g1, g2, g3, g4⟩ := KT.out.five
  obtain ⟨x0, x1, x2, x3, -⟩ := KZ.out.four
  go_wp2_with fail
  refine bodyPost_ret (v := .tuple #[.agg #[.slice (some ⟨g, 0, none⟩) D.zs.length c, .int .i64 D.size, .int .i64 D.op, .int .i64 (D.tick.n : Int), .bool D.down], .int .i64 0, .int .i64 17]) ?_ rfl ?_
  · exact results_dev3 (fn := Try.f48) (p := 6) (u := 7) (x := 8) (g := w.heap.size + 1 + 1) rfl _ _ _ _ _ _ _ _ rfl rfl rfl (Blk.set5 KT.out _ _ _ _ _)
  · rw [hfin.out]
    obtain ⟨q1, q2⟩ := stored5' (r := w.heap.size + 1 + 1) (v0 := .slice (some ⟨g, 0, none⟩) D.zs.length c) (v1 := .int .i64 D.size) (v2 := .int .i64 D.op) (v3 := .int .i64 (D.tick.n : Int)) (v4 := .bool D.down) HT.out HRT.out (by omega)
    exact ⟨(some ⟨g, 0, none⟩), c, es, rfl, q1.tick, q2⟩
set_option maxRecDepth 100000 in
set_option maxHeartbeats 2000000 in
theorem append_new_last (h : RefIs w D A c es G) (hn : D.n < 65536) (hl : D.zs.length < 65536) (hL : ∀ x ∈ D.zs, x.L.length < 65536) (k : Nat) (s : Sec) (hd : ¬ D.down = true) (hk : k < D.zs.length) (hz : D.zs[k].state = 0) (ho : ¬ D.op ≤ (D.opened : Int)) (hf : failedOf D.zs[k].state = 0) (h2 : ¬ D.zs[k].state = 2) (hs : ((D.zs[k].L.length + 1 : Nat) : Int) = D.zs[k].size) (hsz : D.zs[k].size = D.size) : Calls Try.prog 48 #[.agg #[.slice A D.zs.length c, .int .i64 D.size, .int .i64 D.op, .int .i64 (D.n : Int), .bool D.down], .int .i64 (k : Int), s.agg] w (Gave3 w G (D.append (k : Int) s).1 (D.append (k : Int) s).2.1 (D.append (k : Int) s).2.2) := by
  have hfin0 := hide (Dv.append_in s hd hk (fun h => ho h.2))
  have hfin1 := hide (Zn.append_last (z := D.zs[k]) s hf h2 hs)
  have hfin : Hid (D.append (k : Int) s = (D.tick.put k { D.zs[k] with L := D.zs[k].L ++ [s], state := 2 }, (D.zs[k].L.length : Int), 0)) := hide (by rw [hfin0.out, hfin1.out])
  have e2 : (D.zs[k].state == 2) = false := beq_eq_false_iff_ne.2 h2
  have el1 : (((D.zs[k].L.length + 1 : Nat) : Int) == D.size) = true := by rw [hsz] at hs; exact beq_iff_eq.2 hs
  have el2 : ((D.zs[k].L.length : Int) + 1 == D.size) = true := el1
  clear hfin0 hfin1
  have ez : (D.zs[k].state == 0) = true := beq_iff_eq.2 hz
  have eo : decide (D.op ≤ (D.opened : Int)) = false := decide_eq_false ho
  clear hz ho
  have ef : (failedOf D.zs[k].state != 0) = false := by simp [hf]
  have Hbe := hide (Dv.begin_in k hd hk)
  clear hd hf h2 hs hsz
  have hB : Below w.heap.size w (((w.alloc (.cells #[.slice A D.zs.length c, .int .i64 D.size, .int .i64 D.op, .int .i64 (D.n : Int), .bool D.down] 31)).alloc (.cells s.cs.toArray 33)).alloc (.cells #[.slice none 0 0, .int .i64 0, .int .i64 0, .int .i64 0, .bool false] 31)) := (((Below.refl _ w).alloc (Nat.le_refl _) _).alloc (by simp) _).alloc (by simp; omega) _
  have k0 := ((Blk.new w 31 #[.slice A D.zs.length c, .int .i64 D.size, .int .i64 D.op, .int .i64 (D.n : Int), .bool D.down]).alloc (.cells s.cs.toArray 33)).alloc (.cells #[.slice none 0 0, .int .i64 0, .int .i64 0, .int .i64 0, .bool false] 31)
  have kp := (Blk.new (w.alloc (.cells #[.slice A D.zs.length c, .int .i64 D.size, .int .i64 D.op, .int .i64 (D.n : Int), .bool D.down] 31)) 33 s.cs.toArray).alloc (.cells #[.slice none 0 0, .int .i64 0, .int .i64 0, .int .i64 0, .bool false] 31)
  have k1 := Blk.new ((w.alloc (.cells #[.slice A D.zs.length c, .int .i64 D.size, .int .i64 D.op, .int .i64 (D.n : Int), .bool D.down] 31)).alloc (.cells s.cs.toArray 33)) 31 #[.slice none 0 0, .int .i64 0, .int .i64 0, .int .i64 0, .bool false]
  rw [World.size_alloc] at kp
  rw [World.size_alloc, World.size_alloc] at k1
  have h' := hide h
  have Hl := hide hl
  have HLen := hide hL
  have Hn := hide hn
  clear h hl hL hn
  unfold Sec.agg
  go_enter Try.func48, Try.ntmps48
  go_wp2_with fail
  generalize hW : World.alloc (World.alloc (World.alloc w _) _) _ = W2
  have hW' : (((w.alloc (.cells #[.slice A D.zs.length c, .int .i64 D.size, .int .i64 D.op, .int .i64 (D.n : Int), .bool D.down] 31)).alloc (.cells s.cs.toArray 33)).alloc (.cells #[.slice none 0 0, .int .i64 0, .int .i64 0, .int .i64 0, .bool false] 31)) = W2 := hW
  rw [hW'] at hB k0 kp k1
  clear hW hW'
  have HB := hide hB
  have K0 := hide k0
  have Kp := hide kp
  have K1 := hide k1
  have Hbg := begin_any D A c (k : Int) W2 Hn.out
  rw [Hbe.out] at Hbg
  have Hbg := hide Hbg
  clear hB k0 kp k1
  refine Hbg.out.mono ?_
  rintro e w1 ⟨rfl, hb1⟩
  have k01 : Blk w1 w.heap.size 31 _ := (hb1.block _ K0.out.lt).trans K0.out
  obtain ⟨y0, y1, y2, y3, y4, fy0, fy1, fy2, fy3, fy4⟩ := k01.five
  have Haft := hide (after5 (.slice A D.zs.length c) (.int .i64 D.size) (.int .i64 D.op) (.int .i64 ((D.tick.n : Nat) : Int)) (.bool D.down) HB.out (Nat.le_refl _) K0.out h'.out hb1)
  clear hb1 k01 Hbg
  go_upto_region 2 with (fail)
  obtain ⟨KS, hbs, hrs, Hoth⟩ := Haft.out
  have KSp := hide (Hoth (w.heap.size + 1) _ _ (by omega) Kp.out)
  have KS1 := hide (Hoth (w.heap.size + 1 + 1) _ _ (by omega) K1.out)
  have KS0 := hide KS
  have HBS := hide hbs
  have HRS := hide hrs
  clear KS hbs hrs Hoth Haft y0 y1 y2 y3 y4 fy0 fy1 fy2 fy3 fy4 K0 K1 Kp
  generalize ((((w1.setCell _ _).setCell _ _).setCell _ _).setCell _ _).setCell _ _ = wS at KS0 KS1 KSp HBS HRS ⊢
  obtain ⟨s0, s1, s2, s3, s4, -⟩ := KS0.out.five
  obtain ⟨r0, r1, r2, r3, r4, g0, g1, g2, g3, g4⟩ := KS1.out.five
  obtain ⟨g, rfl, hlc, hgl, hk', hez, x0, x1, x2, x3⟩ := HRS.out.at_ hk
  have Hez := hide hez
  clear hez
  go_upto_region 5 with (fail)
  have hbl0 : w.heap.size < wS.heap.size := KS0.out.lt
  have kz := Blk.new wS 93 #[.slice es[k].a D.zs[k].L.length es[k].c, .int .i64 (D.zs[k].safe : Int), .int .i64 D.zs[k].state, .bool D.zs[k].fin]
  have hbz : Below wS.heap.size wS (wS.alloc (.cells #[.slice es[k].a D.zs[k].L.length es[k].c, .int .i64 (D.zs[k].safe : Int), .int .i64 D.zs[k].state, .bool D.zs[k].fin] 93)) := (Below.refl _ wS).alloc (Nat.le_refl _) _
  have kV := (hbz.block _ KS0.out.lt).trans KS0.out
  have kT := (hbz.block _ KS1.out.lt).trans KS1.out
  have kU := (hbz.block _ KSp.out.lt).trans KSp.out
  have KT := hide (show Blk _ (w.heap.size + 1 + 1) 31 _ from kT)
  have KU := hide (show Blk _ (w.heap.size + 1) 33 _ from kU)
  have KV := hide (show Blk _ w.heap.size 31 _ from kV)
  have KZ := hide kz
  have HT := hide (HBS.out.trans (hbz.mono HBS.out.size))
  have HRT := hide (HRS.out.below hbz)
  clear kT kU kV hbz kz s0 s1 s2 s3 s4 r0 r1 r2 r3 r4 g0 g1 g2 g3 g4 x0 x1 x2 x3
  generalize (wS.alloc (.cells #[.slice es[k].a D.zs[k].L.length es[k].c, .int .i64 (D.zs[k].safe : Int), .int .i64 D.zs[k].state, .bool D.zs[k].fin] 93)) = wZ at KT KU KV KZ HT HRT ⊢
  have Hzs := hide (show w.heap.size + 1 + 1 < wS.heap.size from KS1.out.lt)
  have Hg : Hid (g < wS.heap.size) := hide hgl
  clear KS0 KS1 KSp HRS hgl
  obtain ⟨bz, hbzq⟩ : ∃ b, b = wS.heap.size := ⟨_, rfl⟩
  rw [← hbzq] at KZ Hzs Hg ⊢
  have Hbz := hide hbzq
  clear hbzq hbl0
  obtain ⟨s0, s1, s2, s3, s4, -⟩ := KV.out.five
  obtain ⟨r0, r1, r2, r3, r4, g0, g1, g2, g3, g4⟩ := KT.out.five
  obtain ⟨x0, x1, x2, x3, -⟩ := KZ.out.four
  have Hop : Hid (Calls Try.prog 85 #[.agg #[.slice (some ⟨g, 0, none⟩) D.zs.length c, .int .i64 D.size, .int .i64 D.op, .int .i64 (D.tick.n : Int), .bool D.down]] wZ.drew fun e w' => e = .returned (.int .i64 (D.opened : Int)) ∧ wZ.drew.alloc (.cells #[.slice (some ⟨g, 0, none⟩) D.zs.length c, .int .i64 D.size, .int .i64 D.op, .int .i64 (D.tick.n : Int), .bool D.down] 31) = w') := hide (opened_any (D := D.tick) (HRT.out.below (Below.refl wZ.heap.size wZ).drew).tick Hl.out)
  go_region_held3 (fun w' => w'.cell? ⟨w.heap.size, 0, none⟩ = some (.slice (some ⟨g, 0, none⟩) D.zs.length c) ∧ w'.cell? ⟨w.heap.size, 1, none⟩ = some (.int .i64 D.size) ∧ w'.cell? ⟨w.heap.size, 2, none⟩ = some (.int .i64 D.op) ∧ w'.cell? ⟨w.heap.size, 3, none⟩ = some (.int .i64 (D.tick.n : Int)) ∧ w'.cell? ⟨w.heap.size, 4, none⟩ = some (.bool D.down) ∧ w'.cell? ⟨bz, 0, none⟩ = some (.slice es[k].a D.zs[k].L.length es[k].c) ∧ w'.cell? ⟨bz, 1, none⟩ = some (.int .i64 (D.zs[k].safe : Int)) ∧ w'.cell? ⟨bz, 2, none⟩ = some (.int .i64 D.zs[k].state) ∧ w'.cell? ⟨bz, 3, none⟩ = some (.bool D.zs[k].fin)) (go_keep)
    (first | (go_at_call 85; refine Hop.out.mono ?_; rintro e w' ⟨rfl, rfl⟩))
  go_upto_region 7 with (fail)
  have hbY : Below wZ.heap.size wZ (wZ.alloc (.cells #[.slice (some ⟨g, 0, none⟩) D.zs.length c, .int .i64 D.size, .int .i64 D.op, .int .i64 (D.tick.n : Int), .bool D.down] 31)).drew := ((Below.refl _ wZ).alloc (Nat.le_refl _) _).drew
  have kT := (hbY.block _ KT.out.lt).trans KT.out
  have kU := (hbY.block _ KU.out.lt).trans KU.out
  have kV := (hbY.block _ KV.out.lt).trans KV.out
  have kZ := (hbY.block _ KZ.out.lt).trans KZ.out
  have hT := HT.out.trans (hbY.mono HT.out.size)
  have hRT := HRT.out.below hbY
  clear s0 s1 s2 s3 s4 r0 r1 r2 r3 r4 g0 g1 g2 g3 g4 x0 x1 x2 x3 KT KU KV KZ HT HRT
  have KT := hide (show Blk (wZ.alloc (.cells #[.slice (some ⟨g, 0, none⟩) D.zs.length c, .int .i64 D.size, .int .i64 D.op, .int .i64 (D.tick.n : Int), .bool D.down] 31)).drew (w.heap.size + 1 + 1) 31 _ from kT)
  have KU := hide (show Blk (wZ.alloc (.cells #[.slice (some ⟨g, 0, none⟩) D.zs.length c, .int .i64 D.size, .int .i64 D.op, .int .i64 (D.tick.n : Int), .bool D.down] 31)).drew (w.heap.size + 1) 33 _ from kU)
  have KV := hide (show Blk (wZ.alloc (.cells #[.slice (some ⟨g, 0, none⟩) D.zs.length c, .int .i64 D.size, .int .i64 D.op, .int .i64 (D.tick.n : Int), .bool D.down] 31)).drew w.heap.size 31 _ from kV)
  have KZ := hide (show Blk (wZ.alloc (.cells #[.slice (some ⟨g, 0, none⟩) D.zs.length c, .int .i64 D.size, .int .i64 D.op, .int .i64 (D.tick.n : Int), .bool D.down] 31)).drew bz 93 _ from kZ)
  have HT := hide hT
  have HRT := hide hRT
  clear kT kU kV kZ hT hRT
  clear hbY Hop
  generalize (wZ.alloc (.cells #[.slice (some ⟨g, 0, none⟩) D.zs.length c, .int .i64 D.size, .int .i64 D.op, .int .i64 (D.tick.n : Int), .bool D.down] 31)).drew = wY at KT KU KV KZ HT HRT ⊢
  obtain ⟨s0, s1, s2, s3, s4, -⟩ := KV.out.five
  obtain ⟨r0, r1, r2, r3, r4, g0, g1, g2, g3, g4⟩ := KT.out.five
  obtain ⟨x0, x1, x2, x3, -⟩ := KZ.out.four
  go_upto_region 9 with (go_at_call 86; refine (failed_any _ _ _ _ _ _ _).mono ?_; rintro e w' ⟨rfl, rfl⟩)
  have hbV : Below wY.heap.size wY (wY.alloc (.cells #[.slice es[k].a D.zs[k].L.length es[k].c, .int .i64 (D.zs[k].safe : Int), .int .i64 D.zs[k].state, .bool D.zs[k].fin] 93)) := (Below.refl _ wY).alloc (Nat.le_refl _) _
  have kT := (hbV.block _ KT.out.lt).trans KT.out
  have kU := (hbV.block _ KU.out.lt).trans KU.out
  have kV := (hbV.block _ KV.out.lt).trans KV.out
  have kZ := (hbV.block _ KZ.out.lt).trans KZ.out
  have hT := HT.out.trans (hbV.mono HT.out.size)
  have hRT := HRT.out.below hbV
  clear s0 s1 s2 s3 s4 r0 r1 r2 r3 r4 g0 g1 g2 g3 g4 x0 x1 x2 x3 KT KU KV KZ HT HRT
  have KT := hide (show Blk (wY.alloc (.cells #[.slice es[k].a D.zs[k].L.length es[k].c, .int .i64 (D.zs[k].safe : Int), .int .i64 D.zs[k].state, .bool D.zs[k].fin] 93)) (w.heap.size + 1 + 1) 31 _ from kT)
  have KU := hide (show Blk (wY.alloc (.cells #[.slice es[k].a D.zs[k].L.length es[k].c, .int .i64 (D.zs[k].safe : Int), .int .i64 D.zs[k].state, .bool D.zs[k].fin] 93)) (w.heap.size + 1) 33 _ from kU)
  have KV := hide (show Blk (wY.alloc (.cells #[.slice es[k].a D.zs[k].L.length es[k].c, .int .i64 (D.zs[k].safe : Int), .int .i64 D.zs[k].state, .bool D.zs[k].fin] 93)) w.heap.size 31 _ from kV)
  have KZ := hide (show Blk (wY.alloc (.cells #[.slice es[k].a D.zs[k].L.length es[k].c, .int .i64 (D.zs[k].safe : Int), .int .i64 D.zs[k].state, .bool D.zs[k].fin] 93)) bz 93 _ from kZ)
  have HT := hide hT
  have HRT := hide hRT
  clear kT kU kV kZ hT hRT
  clear hbV
  generalize (wY.alloc (.cells #[.slice es[k].a D.zs[k].L.length es[k].c, .int .i64 (D.zs[k].safe : Int), .int .i64 D.zs[k].state, .bool D.zs[k].fin] 93)) = wV at KT KU KV KZ HT HRT ⊢
  obtain ⟨s0, s1, s2, s3, s4, -⟩ := KV.out.five
  obtain ⟨r0, r1, r2, r3, r4, g0, g1, g2, g3, g4⟩ := KT.out.five
  obtain ⟨x0, x1, x2, x3, -⟩ := KZ.out.four
  go_upto_region 11 with (fail)
  obtain ⟨i0, hi, hz0, hz1, hz2⟩ := info_parts infoA
  have hrow : wV.ownsRow 0 33 64 (.slice es[k].a D.zs[k].L.length es[k].c) D.zs[k].L.length (D.zs[k].L.flatMap Sec.cs) := by rw [← Hez.out]; exact HRT.out.row _ (List.getElem_mem hk')
  have Hrow := hide hrow
  have hone := hide (flat_one D.zs[k].L)
  have hLk := HLen.out _ (List.getElem_mem hk)
  clear hrow
  go_upto_region 13 with (at_builtin; refine wpList_append_src _ rfl (.tmp 48) (.tmp 50) 91 rfl wV.heap.size 33 i0 _ 64 64 Try.underlying91 hi hz0 hz1 hz2 rfl (by decide) (.slice none 0 0) 0 [] rfl (World.ownsRow_nil _ _ _ _) es[k].a D.zs[k].L.length es[k].c (D.zs[k].L.flatMap Sec.cs) rfl Hrow.out hone.out (by unfold maxLen; omega) (by omega) (Nat.le_refl _) ?_; intro v1 w1 hown1 hgrow1 hat1; simp only [Nat.zero_add, List.nil_append] at hown1 hat1; obtain ⟨A1, c1, rfl⟩ := own_form hown1)
  have hbzV : bz < wV.heap.size := KZ.out.lt
  have hb1 : Below wV.heap.size wV w1 := (Below.refl _ wV).grown hgrow1 (Nat.le_refl _) (fun k hk => by simp [Value.ownBlock] at hk)
  have kT := (hb1.block _ KT.out.lt).trans KT.out
  have kU := (hb1.block _ KU.out.lt).trans KU.out
  have kV := (hb1.block _ KV.out.lt).trans KV.out
  have kZ := (hb1.block _ KZ.out.lt).trans KZ.out
  have hT := HT.out.trans (hb1.mono HT.out.size)
  have hRT := HRT.out.below hb1
  clear s0 s1 s2 s3 s4 r0 r1 r2 r3 r4 g0 g1 g2 g3 g4 x0 x1 x2 x3 KT KU KV KZ HT HRT
  have KT := hide (show Blk w1 (w.heap.size + 1 + 1) 31 _ from kT)
  have KU := hide (show Blk w1 (w.heap.size + 1) 33 _ from kU)
  have KV := hide (show Blk w1 w.heap.size 31 _ from kV)
  have KZ := hide (show Blk w1 bz 93 _ from kZ)
  have HT := hide hT
  have HRT := hide hRT
  clear kT kU kV kZ hT hRT
  have Hb1 := hide hb1
  have Hown1 := hide hown1
  clear hb1 hgrow1 hat1
  have hne1 : ∀ b, b < wV.heap.size → some b ≠ (Value.slice A1 D.zs[k].L.length c1).ownBlock := fun b hb e => by have := (Hown1.out.lt _ e.symm).1; omega
  have Hne1 := hide hne1
  have hbV : bz < wV.heap.size := hbzV
  have HKV := hide (show w.heap.size + 1 + 1 < bz from Hzs.out)
  clear hne1
  go_upto_region 14 with (first | ((with_reducible refine wpList_load_mid ?qg 33 (.tmp 5) ?qo (w.heap.size + 1) 0 ?qx s.cs ?qd ?qr ?qu ?qf ?qi ?_); (case qg => exact rfl); (case qo => exact rfl); (case qx => exact rfl); (case qr => exact ZD.range_blk s KU.out); (case qu => exact Try.underlying33); (case qf => exact rfl); (case qi => exact sizeAx s)) | ((with_reducible refine wpList_build1 ?pg s (.tmp 53) ?po ?px ?_); (case pg => exact rfl); (case po => exact rfl); (case px => exact rfl)) | (at_builtin; refine wpList_append_own_at _ rfl (.tmp 52) (.tmp 54) 91 rfl 0 33 i0 _ 64 64 Try.underlying91 hi hz0 hz1 hz2 rfl (by decide) (.slice A1 D.zs[k].L.length c1) _ _ ?_ (own_base (Hown1.out.alloc _)) ⟨w1.heap.size, 0, none⟩ 1 1 s.cs ?_ (by rw [Sec.len]) (cells_new _ _ _) s.one (by unfold maxLen; omega) (by omega) (by simp) ?_; exact rfl; exact rfl; intro v2 w2 hown2 hgrow2 hnil2 hat2; obtain ⟨A2, c2, rfl⟩ := own_form hown2; have KZ2 := hide ((KZ.out.alloc (.cells s.cs.toArray 33)).grown hgrow2 (Hne1.out _ hbV)); have Hgrow2 := hide hgrow2; have Hown2 := hide hown2; have Hat2 := hide hat2; clear hgrow2 hown2 hat2 hnil2; obtain ⟨x0, x1, x2, x3, f0, f1, f2, f3⟩ := KZ2.out.four))
  have KT2 := hide ((KT.out.alloc (.cells s.cs.toArray 33)).grown Hgrow2.out (Hne1.out _ (by have := HKV.out; omega)))
  have KV2 := hide ((KV.out.alloc (.cells s.cs.toArray 33)).grown Hgrow2.out (Hne1.out _ (by have := HKV.out; omega)))
  have hb2 : Below w.heap.size w w2 := (HT.out.alloc HT.out.size (.cells s.cs.toArray 33)).grown Hgrow2.out (by have := HT.out.size; simp; omega) (fun b e => by have := (Hown1.out.lt _ e).1; have := HKV.out; omega)
  have hge2 : ∀ b, (Value.slice A2 (D.zs[k].L.length + 1) c2).ownBlock = some b → wV.heap.size ≤ b := fun b e => by
    have := Hb1.out.size
    rcases Hat2.out with h | h
    · rw [h] at e; exact (Hown1.out.lt _ e).1
    · rw [h] at e; simp at e; omega
  have HB2 := hide hb2
  have Hge2 := hide hge2
  clear Hgrow2 Hat2 hb2 hge2
  obtain ⟨s0, s1, s2, s3, s4, -⟩ := KV2.out.five
  go_upto_region 17 with (fail)
  have kt3 : Blk (((w2.setCell ⟨bz, 0, none⟩ (.slice A2 (D.zs[k].L.length + 1) c2)).setCell ⟨bz, 2, none⟩ (.int .i64 1)).setCell ⟨bz, 2, none⟩ (.int .i64 2)) (w.heap.size + 1 + 1) 31 _ := ((KT2.out.far (p := ⟨bz, 0, none⟩) (by simp; have := HKV.out; omega) _).far (p := ⟨bz, 2, none⟩) (by simp; have := HKV.out; omega) _).far (p := ⟨bz, 2, none⟩) (by simp; have := HKV.out; omega) _
  have kv3 : Blk (((w2.setCell ⟨bz, 0, none⟩ (.slice A2 (D.zs[k].L.length + 1) c2)).setCell ⟨bz, 2, none⟩ (.int .i64 1)).setCell ⟨bz, 2, none⟩ (.int .i64 2)) w.heap.size 31 _ := ((KV2.out.far (p := ⟨bz, 0, none⟩) (by simp; have := HKV.out; omega) _).far (p := ⟨bz, 2, none⟩) (by simp; have := HKV.out; omega) _).far (p := ⟨bz, 2, none⟩) (by simp; have := HKV.out; omega) _
  have kz3 : Blk (((w2.setCell ⟨bz, 0, none⟩ (.slice A2 (D.zs[k].L.length + 1) c2)).setCell ⟨bz, 2, none⟩ (.int .i64 1)).setCell ⟨bz, 2, none⟩ (.int .i64 2)) bz 93 #[(.slice A2 (D.zs[k].L.length + 1) c2), .int .i64 (D.zs[k].safe : Int), .int .i64 2, .bool D.zs[k].fin] := by simpa using ((KZ2.out.set_ 0 (.slice A2 (D.zs[k].L.length + 1) c2)).set_ 2 (.int .i64 1)).set_ 2 (.int .i64 2)
  have hm3 : Mods (fun b => b = bz) w2 (((w2.setCell ⟨bz, 0, none⟩ (.slice A2 (D.zs[k].L.length + 1) c2)).setCell ⟨bz, 2, none⟩ (.int .i64 1)).setCell ⟨bz, 2, none⟩ (.int .i64 2)) := (((Mods.refl (fun b => b = bz) w2).setCell (p := ⟨bz, 0, none⟩) (.inl rfl) _).setCell (p := ⟨bz, 2, none⟩) (.inl rfl) _).setCell (p := ⟨bz, 2, none⟩) (.inl rfl) _
  have hb3 := HB2.out.trans (hm3.below (B := w.heap.size) HB2.out.size (fun b e => by have := HKV.out; omega))
  have hown3 := own_mods Hown2.out hm3 (fun b e => by have := Hge2.out b e; omega)
  have KT3 := hide kt3
  have KV3 := hide kv3
  have KZ3 := hide kz3
  have HB3 := hide hb3
  have Hown3 := hide hown3
  clear kt3 kv3 kz3 hm3 hb3 hown3 KT2 KV2 KZ2 HB2 Hown2 s0 s1 s2 s3 s4 x0 x1 x2 x3 f0 f1 f2 f3
  generalize (((w2.setCell ⟨bz, 0, none⟩ (.slice A2 (D.zs[k].L.length + 1) c2)).setCell ⟨bz, 2, none⟩ (.int .i64 1)).setCell ⟨bz, 2, none⟩ (.int .i64 2)) = wX at KT3 KV3 KZ3 HB3 Hown3 ⊢
  have hll : (D.zs[k].L ++ [s]).length = D.zs[k].L.length + 1 := by simp
  have hD : Below w.heap.size w wX.drew := HB3.out.drew
  have href := ((h'.out.tight.below hD).mono (G' := fun i => (G i ∧ i < w.heap.size) ∨ (w.heap.size ≤ i ∧ i ≠ w.heap.size + 1 + 1)) (fun i hi => .inl hi)).tick
  have hput := put_any (D := D.tick) href Hl.out k hk ⟨{ D.zs[k] with L := D.zs[k].L ++ [s], state := 2 }, A2, c2⟩ (by dsimp only; rw [hll, flat_snoc]; exact Hown3.out) (by intro i hi; dsimp only at hi; rw [hll] at hi; have h1 := Hge2.out i hi; have h2 := HKV.out; have h3 := hbV; right; omega)
  dsimp only at hput
  rw [hll] at hput
  have Hput : Hid (Calls Try.prog 87 #[.agg #[.slice (some ⟨g, 0, none⟩) D.zs.length c, .int .i64 D.size, .int .i64 D.op, .int .i64 (D.tick.n : Int), .bool D.down], .int .i64 (k : Int), .agg #[(.slice A2 (D.zs[k].L.length + 1) c2), .int .i64 (D.zs[k].safe : Int), .int .i64 2, .bool D.zs[k].fin]] wX.drew (Put wX.drew (fun i => (G i ∧ i < w.heap.size) ∨ (w.heap.size ≤ i ∧ i ≠ w.heap.size + 1 + 1)) (D.tick.put k { D.zs[k] with L := D.zs[k].L ++ [s], state := 2 }))) := hide hput
  clear hput href hll hD
  have ew : IntKind.i64.wrap (((D.zs[k].L.length + 1 : Nat) : Int) - 1) = (D.zs[k].L.length : Int) := by rw [show ((D.zs[k].L.length + 1 : Nat) : Int) - 1 = (D.zs[k].L.length : Int) by omega]; exact IntWalk.i64_in _ (by omega)
  have ew2 : IntKind.i64.wrap ((D.zs[k].L.length : Int) + 1 - 1) = (D.zs[k].L.length : Int) := by rw [show (D.zs[k].L.length : Int) + 1 - 1 = (D.zs[k].L.length : Int) by omega]; exact IntWalk.i64_in _ (by omega)
  have ew3 : IntKind.i64.wrap (D.zs[k].L.length : Int) = (D.zs[k].L.length : Int) := IntWalk.i64_in _ (by omega)
  obtain ⟨s0, s1, s2, s3, s4, -⟩ := Blk.five (show Blk wX.drew w.heap.size 31 _ from KV3.out)
  obtain ⟨x0, x1, x2, x3, -⟩ := Blk.four (show Blk wX.drew bz 93 _ from KZ3.out)
  have hnb : ¬ bz = w.heap.size + 1 + 1 := by have := HKV.out; omega
  have hnb2 : ¬ w.heap.size + 1 + 1 = bz := fun e => hnb e.symm
  clear hbV hLk hlc
  go_region_held3 (fun w' => w'.cell? ⟨w.heap.size, 0, none⟩ = some (.slice (some ⟨g, 0, none⟩) D.zs.length c) ∧ w'.cell? ⟨w.heap.size, 1, none⟩ = some (.int .i64 D.size) ∧ w'.cell? ⟨w.heap.size, 2, none⟩ = some (.int .i64 D.op) ∧ w'.cell? ⟨w.heap.size, 3, none⟩ = some (.int .i64 (D.tick.n : Int)) ∧ w'.cell? ⟨w.heap.size, 4, none⟩ = some (.bool D.down) ∧ w'.cell? ⟨bz, 0, none⟩ = some (.slice A2 (D.zs[k].L.length + 1) c2) ∧ w'.cell? ⟨bz, 1, none⟩ = some (.int .i64 (D.zs[k].safe : Int)) ∧ w'.cell? ⟨bz, 2, none⟩ = some (.int .i64 2) ∧ w'.cell? ⟨bz, 3, none⟩ = some (.bool D.zs[k].fin)) (first | with_reducible exact ⟨s0, s1, s2, s3, s4, x0, x1, x2, x3⟩ | with_reducible exact ⟨q0, q1, q2, q3, q4, q5, q6, q7, q8⟩ | ((with_reducible refine ⟨set5_cell ?_ q0, set5_cell ?_ q1, set5_cell ?_ q2, set5_cell ?_ q3, set5_cell ?_ q4, set5_cell ?_ q5, set5_cell ?_ q6, set5_cell ?_ q7, set5_cell ?_ q8⟩) <;> (dsimp only; omega)) | go_keep)
    (first | (go_at_call 87; (with_reducible refine Hput.out.mono ?_); rintro e w6 ⟨A', c', es', rfl, href, hb6⟩; have Href := hide href; have Hb6 := hide hb6; obtain ⟨q0, q1, q2, q3, q4, -⟩ := Blk.five ((hb6.block _ (show w.heap.size < wX.heap.size from KV3.out.lt)).trans KV3.out); obtain ⟨q5, q6, q7, q8, -⟩ := Blk.four ((hb6.block _ (show bz < wX.heap.size from KZ3.out.lt)).trans KZ3.out); have KT6 := hide (show Blk w6 (w.heap.size + 1 + 1) 31 _ from (hb6.block _ (show w.heap.size + 1 + 1 < wX.heap.size from KT3.out.lt)).trans KT3.out); obtain ⟨r0, r1, r2, r3, r4, g0, g1, g2, g3, g4⟩ := KT6.out.five))
  go_wp2_with fail
  refine bodyPost_ret (v := .tuple #[.agg #[.slice A' (D.tick.put k { D.zs[k] with L := D.zs[k].L ++ [s], state := 2 }).zs.length c', .int .i64 (D.tick.put k { D.zs[k] with L := D.zs[k].L ++ [s], state := 2 }).size, .int .i64 (D.tick.put k { D.zs[k] with L := D.zs[k].L ++ [s], state := 2 }).op, .int .i64 ((D.tick.put k { D.zs[k] with L := D.zs[k].L ++ [s], state := 2 }).n : Int), .bool (D.tick.put k { D.zs[k] with L := D.zs[k].L ++ [s], state := 2 }).down], .int .i64 (D.zs[k].L.length : Int), .int .i64 0]) ?_ rfl ?_
  · exact results_dev3 (fn := Try.f48) (p := 6) (u := 7) (x := 8) (g := w.heap.size + 1 + 1) rfl _ _ _ _ _ _ _ _ rfl rfl rfl (Blk.set5 KT6.out _ _ _ _ _)
  · rw [hfin.out]
    obtain ⟨q1, q2⟩ := storedX (G := G) (v0 := .slice A' (D.tick.put k { D.zs[k] with L := D.zs[k].L ++ [s], state := 2 }).zs.length c') (v1 := .int .i64 (D.tick.put k { D.zs[k] with L := D.zs[k].L ++ [s], state := 2 }).size) (v2 := .int .i64 (D.tick.put k { D.zs[k] with L := D.zs[k].L ++ [s], state := 2 }).op) (v3 := .int .i64 ((D.tick.put k { D.zs[k] with L := D.zs[k].L ++ [s], state := 2 }).n : Int)) (v4 := .bool (D.tick.put k { D.zs[k] with L := D.zs[k].L ++ [s], state := 2 }).down) (HB3.out.drew.trans (Hb6.out.mono HB3.out.size)) Href.out (r := w.heap.size + 1 + 1) (by omega) (fun i hi => by
      have h1 := HB3.out.size
      have h2 : w.heap.size + 1 + 1 < wX.heap.size := KT3.out.lt
      have h3 : wX.drew.heap.size = wX.heap.size := rfl
      rcases hi with (hi | hi) | hi
      · exact ⟨.inl hi.1, by omega⟩
      · exact ⟨.inr hi.1, hi.2⟩
      · exact ⟨.inr (by omega), by omega⟩)
    exact ⟨A', c', es', rfl, q1, q2⟩
set_option maxRecDepth 100000 in
set_option maxHeartbeats 2000000 in
theorem append_new_more (h : RefIs w D A c es G) (hn : D.n < 65536) (hl : D.zs.length < 65536) (hL : ∀ x ∈ D.zs, x.L.length < 65536) (k : Nat) (s : Sec) (hd : ¬ D.down = true) (hk : k < D.zs.length) (hz : D.zs[k].state = 0) (ho : ¬ D.op ≤ (D.opened : Int)) (hf : failedOf D.zs[k].state = 0) (h2 : ¬ D.zs[k].state = 2) (hs : ¬ ((D.zs[k].L.length + 1 : Nat) : Int) = D.zs[k].size) (hsz : D.zs[k].size = D.size) : Calls Try.prog 48 #[.agg #[.slice A D.zs.length c, .int .i64 D.size, .int .i64 D.op, .int .i64 (D.n : Int), .bool D.down], .int .i64 (k : Int), s.agg] w (Gave3 w G (D.append (k : Int) s).1 (D.append (k : Int) s).2.1 (D.append (k : Int) s).2.2) := by
  have hfin0 := hide (Dv.append_in s hd hk (fun h => ho h.2))
  have hfin1 := hide (Zn.append_more (z := D.zs[k]) s hf h2 hs)
  have hfin : Hid (D.append (k : Int) s = (D.tick.put k { D.zs[k] with L := D.zs[k].L ++ [s], state := 1 }, (D.zs[k].L.length : Int), 0)) := hide (by rw [hfin0.out, hfin1.out])
  have e2 : (D.zs[k].state == 2) = false := beq_eq_false_iff_ne.2 h2
  have el1 : (((D.zs[k].L.length + 1 : Nat) : Int) == D.size) = false := by rw [hsz] at hs; exact beq_eq_false_iff_ne.2 hs
  have el2 : ((D.zs[k].L.length : Int) + 1 == D.size) = false := el1
  clear hfin0 hfin1
  have ez : (D.zs[k].state == 0) = true := beq_iff_eq.2 hz
  have eo : decide (D.op ≤ (D.opened : Int)) = false := decide_eq_false ho
  clear hz ho
  have ef : (failedOf D.zs[k].state != 0) = false := by simp [hf]
  have Hbe := hide (Dv.begin_in k hd hk)
  clear hd hf h2 hs hsz
  have hB : Below w.heap.size w (((w.alloc (.cells #[.slice A D.zs.length c, .int .i64 D.size, .int .i64 D.op, .int .i64 (D.n : Int), .bool D.down] 31)).alloc (.cells s.cs.toArray 33)).alloc (.cells #[.slice none 0 0, .int .i64 0, .int .i64 0, .int .i64 0, .bool false] 31)) := (((Below.refl _ w).alloc (Nat.le_refl _) _).alloc (by simp) _).alloc (by simp; omega) _
  have k0 := ((Blk.new w 31 #[.slice A D.zs.length c, .int .i64 D.size, .int .i64 D.op, .int .i64 (D.n : Int), .bool D.down]).alloc (.cells s.cs.toArray 33)).alloc (.cells #[.slice none 0 0, .int .i64 0, .int .i64 0, .int .i64 0, .bool false] 31)
  have kp := (Blk.new (w.alloc (.cells #[.slice A D.zs.length c, .int .i64 D.size, .int .i64 D.op, .int .i64 (D.n : Int), .bool D.down] 31)) 33 s.cs.toArray).alloc (.cells #[.slice none 0 0, .int .i64 0, .int .i64 0, .int .i64 0, .bool false] 31)
  have k1 := Blk.new ((w.alloc (.cells #[.slice A D.zs.length c, .int .i64 D.size, .int .i64 D.op, .int .i64 (D.n : Int), .bool D.down] 31)).alloc (.cells s.cs.toArray 33)) 31 #[.slice none 0 0, .int .i64 0, .int .i64 0, .int .i64 0, .bool false]
  rw [World.size_alloc] at kp
  rw [World.size_alloc, World.size_alloc] at k1
  have h' := hide h
  have Hl := hide hl
  have HLen := hide hL
  have Hn := hide hn
  clear h hl hL hn
  unfold Sec.agg
  go_enter Try.func48, Try.ntmps48
  go_wp2_with fail
  generalize hW : World.alloc (World.alloc (World.alloc w _) _) _ = W2
  have hW' : (((w.alloc (.cells #[.slice A D.zs.length c, .int .i64 D.size, .int .i64 D.op, .int .i64 (D.n : Int), .bool D.down] 31)).alloc (.cells s.cs.toArray 33)).alloc (.cells #[.slice none 0 0, .int .i64 0, .int .i64 0, .int .i64 0, .bool false] 31)) = W2 := hW
  rw [hW'] at hB k0 kp k1
  clear hW hW'
  have HB := hide hB
  have K0 := hide k0
  have Kp := hide kp
  have K1 := hide k1
  have Hbg := begin_any D A c (k : Int) W2 Hn.out
  rw [Hbe.out] at Hbg
  have Hbg := hide Hbg
  clear hB k0 kp k1
  refine Hbg.out.mono ?_
  rintro e w1 ⟨rfl, hb1⟩
  have k01 : Blk w1 w.heap.size 31 _ := (hb1.block _ K0.out.lt).trans K0.out
  obtain ⟨y0, y1, y2, y3, y4, fy0, fy1, fy2, fy3, fy4⟩ := k01.five
  have Haft := hide (after5 (.slice A D.zs.length c) (.int .i64 D.size) (.int .i64 D.op) (.int .i64 ((D.tick.n : Nat) : Int)) (.bool D.down) HB.out (Nat.le_refl _) K0.out h'.out hb1)
  clear hb1 k01 Hbg
  go_upto_region 2 with (fail)
  obtain ⟨KS, hbs, hrs, Hoth⟩ := Haft.out
  have KSp := hide (Hoth (w.heap.size + 1) _ _ (by omega) Kp.out)
  have KS1 := hide (Hoth (w.heap.size + 1 + 1) _ _ (by omega) K1.out)
  have KS0 := hide KS
  have HBS := hide hbs
  have HRS := hide hrs
  clear KS hbs hrs Hoth Haft y0 y1 y2 y3 y4 fy0 fy1 fy2 fy3 fy4 K0 K1 Kp
  generalize ((((w1.setCell _ _).setCell _ _).setCell _ _).setCell _ _).setCell _ _ = wS at KS0 KS1 KSp HBS HRS ⊢
  obtain ⟨s0, s1, s2, s3, s4, -⟩ := KS0.out.five
  obtain ⟨r0, r1, r2, r3, r4, g0, g1, g2, g3, g4⟩ := KS1.out.five
  obtain ⟨g, rfl, hlc, hgl, hk', hez, x0, x1, x2, x3⟩ := HRS.out.at_ hk
  have Hez := hide hez
  clear hez
  go_upto_region 5 with (fail)
  have hbl0 : w.heap.size < wS.heap.size := KS0.out.lt
  have kz := Blk.new wS 93 #[.slice es[k].a D.zs[k].L.length es[k].c, .int .i64 (D.zs[k].safe : Int), .int .i64 D.zs[k].state, .bool D.zs[k].fin]
  have hbz : Below wS.heap.size wS (wS.alloc (.cells #[.slice es[k].a D.zs[k].L.length es[k].c, .int .i64 (D.zs[k].safe : Int), .int .i64 D.zs[k].state, .bool D.zs[k].fin] 93)) := (Below.refl _ wS).alloc (Nat.le_refl _) _
  have kV := (hbz.block _ KS0.out.lt).trans KS0.out
  have kT := (hbz.block _ KS1.out.lt).trans KS1.out
  have kU := (hbz.block _ KSp.out.lt).trans KSp.out
  have KT := hide (show Blk _ (w.heap.size + 1 + 1) 31 _ from kT)
  have KU := hide (show Blk _ (w.heap.size + 1) 33 _ from kU)
  have KV := hide (show Blk _ w.heap.size 31 _ from kV)
  have KZ := hide kz
  have HT := hide (HBS.out.trans (hbz.mono HBS.out.size))
  have HRT := hide (HRS.out.below hbz)
  clear kT kU kV hbz kz s0 s1 s2 s3 s4 r0 r1 r2 r3 r4 g0 g1 g2 g3 g4 x0 x1 x2 x3
  generalize (wS.alloc (.cells #[.slice es[k].a D.zs[k].L.length es[k].c, .int .i64 (D.zs[k].safe : Int), .int .i64 D.zs[k].state, .bool D.zs[k].fin] 93)) = wZ at KT KU KV KZ HT HRT ⊢
  have Hzs := hide (show w.heap.size + 1 + 1 < wS.heap.size from KS1.out.lt)
  have Hg : Hid (g < wS.heap.size) := hide hgl
  clear KS0 KS1 KSp HRS hgl
  obtain ⟨bz, hbzq⟩ : ∃ b, b = wS.heap.size := ⟨_, rfl⟩
  rw [← hbzq] at KZ Hzs Hg ⊢
  have Hbz := hide hbzq
  clear hbzq hbl0
  obtain ⟨s0, s1, s2, s3, s4, -⟩ := KV.out.five
  obtain ⟨r0, r1, r2, r3, r4, g0, g1, g2, g3, g4⟩ := KT.out.five
  obtain ⟨x0, x1, x2, x3, -⟩ := KZ.out.four
  have Hop : Hid (Calls Try.prog 85 #[.agg #[.slice (some ⟨g, 0, none⟩) D.zs.length c, .int .i64 D.size, .int .i64 D.op, .int .i64 (D.tick.n : Int), .bool D.down]] wZ.drew fun e w' => e = .returned (.int .i64 (D.opened : Int)) ∧ wZ.drew.alloc (.cells #[.slice (some ⟨g, 0, none⟩) D.zs.length c, .int .i64 D.size, .int .i64 D.op, .int .i64 (D.tick.n : Int), .bool D.down] 31) = w') := hide (opened_any (D := D.tick) (HRT.out.below (Below.refl wZ.heap.size wZ).drew).tick Hl.out)
  go_region_held3 (fun w' => w'.cell? ⟨w.heap.size, 0, none⟩ = some (.slice (some ⟨g, 0, none⟩) D.zs.length c) ∧ w'.cell? ⟨w.heap.size, 1, none⟩ = some (.int .i64 D.size) ∧ w'.cell? ⟨w.heap.size, 2, none⟩ = some (.int .i64 D.op) ∧ w'.cell? ⟨w.heap.size, 3, none⟩ = some (.int .i64 (D.tick.n : Int)) ∧ w'.cell? ⟨w.heap.size, 4, none⟩ = some (.bool D.down) ∧ w'.cell? ⟨bz, 0, none⟩ = some (.slice es[k].a D.zs[k].L.length es[k].c) ∧ w'.cell? ⟨bz, 1, none⟩ = some (.int .i64 (D.zs[k].safe : Int)) ∧ w'.cell? ⟨bz, 2, none⟩ = some (.int .i64 D.zs[k].state) ∧ w'.cell? ⟨bz, 3, none⟩ = some (.bool D.zs[k].fin)) (go_keep)
    (first | (go_at_call 85; refine Hop.out.mono ?_; rintro e w' ⟨rfl, rfl⟩))
  go_upto_region 7 with (fail)
  have hbY : Below wZ.heap.size wZ (wZ.alloc (.cells #[.slice (some ⟨g, 0, none⟩) D.zs.length c, .int .i64 D.size, .int .i64 D.op, .int .i64 (D.tick.n : Int), .bool D.down] 31)).drew := ((Below.refl _ wZ).alloc (Nat.le_refl _) _).drew
  have kT := (hbY.block _ KT.out.lt).trans KT.out
  have kU := (hbY.block _ KU.out.lt).trans KU.out
  have kV := (hbY.block _ KV.out.lt).trans KV.out
  have kZ := (hbY.block _ KZ.out.lt).trans KZ.out
  have hT := HT.out.trans (hbY.mono HT.out.size)
  have hRT := HRT.out.below hbY
  clear s0 s1 s2 s3 s4 r0 r1 r2 r3 r4 g0 g1 g2 g3 g4 x0 x1 x2 x3 KT KU KV KZ HT HRT
  have KT := hide (show Blk (wZ.alloc (.cells #[.slice (some ⟨g, 0, none⟩) D.zs.length c, .int .i64 D.size, .int .i64 D.op, .int .i64 (D.tick.n : Int), .bool D.down] 31)).drew (w.heap.size + 1 + 1) 31 _ from kT)
  have KU := hide (show Blk (wZ.alloc (.cells #[.slice (some ⟨g, 0, none⟩) D.zs.length c, .int .i64 D.size, .int .i64 D.op, .int .i64 (D.tick.n : Int), .bool D.down] 31)).drew (w.heap.size + 1) 33 _ from kU)
  have KV := hide (show Blk (wZ.alloc (.cells #[.slice (some ⟨g, 0, none⟩) D.zs.length c, .int .i64 D.size, .int .i64 D.op, .int .i64 (D.tick.n : Int), .bool D.down] 31)).drew w.heap.size 31 _ from kV)
  have KZ := hide (show Blk (wZ.alloc (.cells #[.slice (some ⟨g, 0, none⟩) D.zs.length c, .int .i64 D.size, .int .i64 D.op, .int .i64 (D.tick.n : Int), .bool D.down] 31)).drew bz 93 _ from kZ)
  have HT := hide hT
  have HRT := hide hRT
  clear kT kU kV kZ hT hRT
  clear hbY Hop
  generalize (wZ.alloc (.cells #[.slice (some ⟨g, 0, none⟩) D.zs.length c, .int .i64 D.size, .int .i64 D.op, .int .i64 (D.tick.n : Int), .bool D.down] 31)).drew = wY at KT KU KV KZ HT HRT ⊢
  obtain ⟨s0, s1, s2, s3, s4, -⟩ := KV.out.five
  obtain ⟨r0, r1, r2, r3, r4, g0, g1, g2, g3, g4⟩ := KT.out.five
  obtain ⟨x0, x1, x2, x3, -⟩ := KZ.out.four
  go_upto_region 9 with (go_at_call 86; refine (failed_any _ _ _ _ _ _ _).mono ?_; rintro e w' ⟨rfl, rfl⟩)
  have hbV : Below wY.heap.size wY (wY.alloc (.cells #[.slice es[k].a D.zs[k].L.length es[k].c, .int .i64 (D.zs[k].safe : Int), .int .i64 D.zs[k].state, .bool D.zs[k].fin] 93)) := (Below.refl _ wY).alloc (Nat.le_refl _) _
  have kT := (hbV.block _ KT.out.lt).trans KT.out
  have kU := (hbV.block _ KU.out.lt).trans KU.out
  have kV := (hbV.block _ KV.out.lt).trans KV.out
  have kZ := (hbV.block _ KZ.out.lt).trans KZ.out
  have hT := HT.out.trans (hbV.mono HT.out.size)
  have hRT := HRT.out.below hbV
  clear s0 s1 s2 s3 s4 r0 r1 r2 r3 r4 g0 g1 g2 g3 g4 x0 x1 x2 x3 KT KU KV KZ HT HRT
  have KT := hide (show Blk (wY.alloc (.cells #[.slice es[k].a D.zs[k].L.length es[k].c, .int .i64 (D.zs[k].safe : Int), .int .i64 D.zs[k].state, .bool D.zs[k].fin] 93)) (w.heap.size + 1 + 1) 31 _ from kT)
  have KU := hide (show Blk (wY.alloc (.cells #[.slice es[k].a D.zs[k].L.length es[k].c, .int .i64 (D.zs[k].safe : Int), .int .i64 D.zs[k].state, .bool D.zs[k].fin] 93)) (w.heap.size + 1) 33 _ from kU)
  have KV := hide (show Blk (wY.alloc (.cells #[.slice es[k].a D.zs[k].L.length es[k].c, .int .i64 (D.zs[k].safe : Int), .int .i64 D.zs[k].state, .bool D.zs[k].fin] 93)) w.heap.size 31 _ from kV)
  have KZ := hide (show Blk (wY.alloc (.cells #[.slice es[k].a D.zs[k].L.length es[k].c, .int .i64 (D.zs[k].safe : Int), .int .i64 D.zs[k].state, .bool D.zs[k].fin] 93)) bz 93 _ from kZ)
  have HT := hide hT
  have HRT := hide hRT
  clear kT kU kV kZ hT hRT
  clear hbV
  generalize (wY.alloc (.cells #[.slice es[k].a D.zs[k].L.length es[k].c, .int .i64 (D.zs[k].safe : Int), .int .i64 D.zs[k].state, .bool D.zs[k].fin] 93)) = wV at KT KU KV KZ HT HRT ⊢
  obtain ⟨s0, s1, s2, s3, s4, -⟩ := KV.out.five
  obtain ⟨r0, r1, r2, r3, r4, g0, g1, g2, g3, g4⟩ := KT.out.five
  obtain ⟨x0, x1, x2, x3, -⟩ := KZ.out.four
  go_upto_region 11 with (fail)
  obtain ⟨i0, hi, hz0, hz1, hz2⟩ := info_parts infoA
  have hrow : wV.ownsRow 0 33 64 (.slice es[k].a D.zs[k].L.length es[k].c) D.zs[k].L.length (D.zs[k].L.flatMap Sec.cs) := by rw [← Hez.out]; exact HRT.out.row _ (List.getElem_mem hk')
  have Hrow := hide hrow
  have hone := hide (flat_one D.zs[k].L)
  have hLk := HLen.out _ (List.getElem_mem hk)
  clear hrow
  go_upto_region 13 with (at_builtin; refine wpList_append_src _ rfl (.tmp 48) (.tmp 50) 91 rfl wV.heap.size 33 i0 _ 64 64 Try.underlying91 hi hz0 hz1 hz2 rfl (by decide) (.slice none 0 0) 0 [] rfl (World.ownsRow_nil _ _ _ _) es[k].a D.zs[k].L.length es[k].c (D.zs[k].L.flatMap Sec.cs) rfl Hrow.out hone.out (by unfold maxLen; omega) (by omega) (Nat.le_refl _) ?_; intro v1 w1 hown1 hgrow1 hat1; simp only [Nat.zero_add, List.nil_append] at hown1 hat1; obtain ⟨A1, c1, rfl⟩ := own_form hown1)
  have hbzV : bz < wV.heap.size := KZ.out.lt
  have hb1 : Below wV.heap.size wV w1 := (Below.refl _ wV).grown hgrow1 (Nat.le_refl _) (fun k hk => by simp [Value.ownBlock] at hk)
  have kT := (hb1.block _ KT.out.lt).trans KT.out
  have kU := (hb1.block _ KU.out.lt).trans KU.out
  have kV := (hb1.block _ KV.out.lt).trans KV.out
  have kZ := (hb1.block _ KZ.out.lt).trans KZ.out
  have hT := HT.out.trans (hb1.mono HT.out.size)
  have hRT := HRT.out.below hb1
  clear s0 s1 s2 s3 s4 r0 r1 r2 r3 r4 g0 g1 g2 g3 g4 x0 x1 x2 x3 KT KU KV KZ HT HRT
  have KT := hide (show Blk w1 (w.heap.size + 1 + 1) 31 _ from kT)
  have KU := hide (show Blk w1 (w.heap.size + 1) 33 _ from kU)
  have KV := hide (show Blk w1 w.heap.size 31 _ from kV)
  have KZ := hide (show Blk w1 bz 93 _ from kZ)
  have HT := hide hT
  have HRT := hide hRT
  clear kT kU kV kZ hT hRT
  have Hb1 := hide hb1
  have Hown1 := hide hown1
  clear hb1 hgrow1 hat1
  have hne1 : ∀ b, b < wV.heap.size → some b ≠ (Value.slice A1 D.zs[k].L.length c1).ownBlock := fun b hb e => by have := (Hown1.out.lt _ e.symm).1; omega
  have Hne1 := hide hne1
  have hbV : bz < wV.heap.size := hbzV
  have HKV := hide (show w.heap.size + 1 + 1 < bz from Hzs.out)
  clear hne1
  go_upto_region 14 with (first | ((with_reducible refine wpList_load_mid ?qg 33 (.tmp 5) ?qo (w.heap.size + 1) 0 ?qx s.cs ?qd ?qr ?qu ?qf ?qi ?_); (case qg => exact rfl); (case qo => exact rfl); (case qx => exact rfl); (case qr => exact ZD.range_blk s KU.out); (case qu => exact Try.underlying33); (case qf => exact rfl); (case qi => exact sizeAx s)) | ((with_reducible refine wpList_build1 ?pg s (.tmp 53) ?po ?px ?_); (case pg => exact rfl); (case po => exact rfl); (case px => exact rfl)) | (at_builtin; refine wpList_append_own_at _ rfl (.tmp 52) (.tmp 54) 91 rfl 0 33 i0 _ 64 64 Try.underlying91 hi hz0 hz1 hz2 rfl (by decide) (.slice A1 D.zs[k].L.length c1) _ _ ?_ (own_base (Hown1.out.alloc _)) ⟨w1.heap.size, 0, none⟩ 1 1 s.cs ?_ (by rw [Sec.len]) (cells_new _ _ _) s.one (by unfold maxLen; omega) (by omega) (by simp) ?_; exact rfl; exact rfl; intro v2 w2 hown2 hgrow2 hnil2 hat2; obtain ⟨A2, c2, rfl⟩ := own_form hown2; have KZ2 := hide ((KZ.out.alloc (.cells s.cs.toArray 33)).grown hgrow2 (Hne1.out _ hbV)); have Hgrow2 := hide hgrow2; have Hown2 := hide hown2; have Hat2 := hide hat2; clear hgrow2 hown2 hat2 hnil2; obtain ⟨x0, x1, x2, x3, f0, f1, f2, f3⟩ := KZ2.out.four))
  have KT2 := hide ((KT.out.alloc (.cells s.cs.toArray 33)).grown Hgrow2.out (Hne1.out _ (by have := HKV.out; omega)))
  have KV2 := hide ((KV.out.alloc (.cells s.cs.toArray 33)).grown Hgrow2.out (Hne1.out _ (by have := HKV.out; omega)))
  have hb2 : Below w.heap.size w w2 := (HT.out.alloc HT.out.size (.cells s.cs.toArray 33)).grown Hgrow2.out (by have := HT.out.size; simp; omega) (fun b e => by have := (Hown1.out.lt _ e).1; have := HKV.out; omega)
  have hge2 : ∀ b, (Value.slice A2 (D.zs[k].L.length + 1) c2).ownBlock = some b → wV.heap.size ≤ b := fun b e => by
    have := Hb1.out.size
    rcases Hat2.out with h | h
    · rw [h] at e; exact (Hown1.out.lt _ e).1
    · rw [h] at e; simp at e; omega
  have HB2 := hide hb2
  have Hge2 := hide hge2
  clear Hgrow2 Hat2 hb2 hge2
  obtain ⟨s0, s1, s2, s3, s4, -⟩ := KV2.out.five
  go_upto_region 17 with (fail)
  have kt3 : Blk ((w2.setCell ⟨bz, 0, none⟩ (.slice A2 (D.zs[k].L.length + 1) c2)).setCell ⟨bz, 2, none⟩ (.int .i64 1)) (w.heap.size + 1 + 1) 31 _ := (KT2.out.far (p := ⟨bz, 0, none⟩) (by simp; have := HKV.out; omega) _).far (p := ⟨bz, 2, none⟩) (by simp; have := HKV.out; omega) _
  have kv3 : Blk ((w2.setCell ⟨bz, 0, none⟩ (.slice A2 (D.zs[k].L.length + 1) c2)).setCell ⟨bz, 2, none⟩ (.int .i64 1)) w.heap.size 31 _ := (KV2.out.far (p := ⟨bz, 0, none⟩) (by simp; have := HKV.out; omega) _).far (p := ⟨bz, 2, none⟩) (by simp; have := HKV.out; omega) _
  have kz3 : Blk ((w2.setCell ⟨bz, 0, none⟩ (.slice A2 (D.zs[k].L.length + 1) c2)).setCell ⟨bz, 2, none⟩ (.int .i64 1)) bz 93 #[(.slice A2 (D.zs[k].L.length + 1) c2), .int .i64 (D.zs[k].safe : Int), .int .i64 1, .bool D.zs[k].fin] := by simpa using (KZ2.out.set_ 0 (.slice A2 (D.zs[k].L.length + 1) c2)).set_ 2 (.int .i64 1)
  have hm3 : Mods (fun b => b = bz) w2 ((w2.setCell ⟨bz, 0, none⟩ (.slice A2 (D.zs[k].L.length + 1) c2)).setCell ⟨bz, 2, none⟩ (.int .i64 1)) := ((Mods.refl (fun b => b = bz) w2).setCell (p := ⟨bz, 0, none⟩) (.inl rfl) _).setCell (p := ⟨bz, 2, none⟩) (.inl rfl) _
  have hb3 := HB2.out.trans (hm3.below (B := w.heap.size) HB2.out.size (fun b e => by have := HKV.out; omega))
  have hown3 := own_mods Hown2.out hm3 (fun b e => by have := Hge2.out b e; omega)
  have KT3 := hide kt3
  have KV3 := hide kv3
  have KZ3 := hide kz3
  have HB3 := hide hb3
  have Hown3 := hide hown3
  clear kt3 kv3 kz3 hm3 hb3 hown3 KT2 KV2 KZ2 HB2 Hown2 s0 s1 s2 s3 s4 x0 x1 x2 x3 f0 f1 f2 f3
  generalize ((w2.setCell ⟨bz, 0, none⟩ (.slice A2 (D.zs[k].L.length + 1) c2)).setCell ⟨bz, 2, none⟩ (.int .i64 1)) = wX at KT3 KV3 KZ3 HB3 Hown3 ⊢
  have hll : (D.zs[k].L ++ [s]).length = D.zs[k].L.length + 1 := by simp
  have hD : Below w.heap.size w wX.drew := HB3.out.drew
  have href := ((h'.out.tight.below hD).mono (G' := fun i => (G i ∧ i < w.heap.size) ∨ (w.heap.size ≤ i ∧ i ≠ w.heap.size + 1 + 1)) (fun i hi => .inl hi)).tick
  have hput := put_any (D := D.tick) href Hl.out k hk ⟨{ D.zs[k] with L := D.zs[k].L ++ [s], state := 1 }, A2, c2⟩ (by dsimp only; rw [hll, flat_snoc]; exact Hown3.out) (by intro i hi; dsimp only at hi; rw [hll] at hi; have h1 := Hge2.out i hi; have h2 := HKV.out; have h3 := hbV; right; omega)
  dsimp only at hput
  rw [hll] at hput
  have Hput : Hid (Calls Try.prog 87 #[.agg #[.slice (some ⟨g, 0, none⟩) D.zs.length c, .int .i64 D.size, .int .i64 D.op, .int .i64 (D.tick.n : Int), .bool D.down], .int .i64 (k : Int), .agg #[(.slice A2 (D.zs[k].L.length + 1) c2), .int .i64 (D.zs[k].safe : Int), .int .i64 1, .bool D.zs[k].fin]] wX.drew (Put wX.drew (fun i => (G i ∧ i < w.heap.size) ∨ (w.heap.size ≤ i ∧ i ≠ w.heap.size + 1 + 1)) (D.tick.put k { D.zs[k] with L := D.zs[k].L ++ [s], state := 1 }))) := hide hput
  clear hput href hll hD
  have ew : IntKind.i64.wrap (((D.zs[k].L.length + 1 : Nat) : Int) - 1) = (D.zs[k].L.length : Int) := by rw [show ((D.zs[k].L.length + 1 : Nat) : Int) - 1 = (D.zs[k].L.length : Int) by omega]; exact IntWalk.i64_in _ (by omega)
  have ew2 : IntKind.i64.wrap ((D.zs[k].L.length : Int) + 1 - 1) = (D.zs[k].L.length : Int) := by rw [show (D.zs[k].L.length : Int) + 1 - 1 = (D.zs[k].L.length : Int) by omega]; exact IntWalk.i64_in _ (by omega)
  have ew3 : IntKind.i64.wrap (D.zs[k].L.length : Int) = (D.zs[k].L.length : Int) := IntWalk.i64_in _ (by omega)
  obtain ⟨s0, s1, s2, s3, s4, -⟩ := Blk.five (show Blk wX.drew w.heap.size 31 _ from KV3.out)
  obtain ⟨x0, x1, x2, x3, -⟩ := Blk.four (show Blk wX.drew bz 93 _ from KZ3.out)
  have hnb : ¬ bz = w.heap.size + 1 + 1 := by have := HKV.out; omega
  have hnb2 : ¬ w.heap.size + 1 + 1 = bz := fun e => hnb e.symm
  clear hbV hLk hlc
  go_region_held3 (fun w' => w'.cell? ⟨w.heap.size, 0, none⟩ = some (.slice (some ⟨g, 0, none⟩) D.zs.length c) ∧ w'.cell? ⟨w.heap.size, 1, none⟩ = some (.int .i64 D.size) ∧ w'.cell? ⟨w.heap.size, 2, none⟩ = some (.int .i64 D.op) ∧ w'.cell? ⟨w.heap.size, 3, none⟩ = some (.int .i64 (D.tick.n : Int)) ∧ w'.cell? ⟨w.heap.size, 4, none⟩ = some (.bool D.down) ∧ w'.cell? ⟨bz, 0, none⟩ = some (.slice A2 (D.zs[k].L.length + 1) c2) ∧ w'.cell? ⟨bz, 1, none⟩ = some (.int .i64 (D.zs[k].safe : Int)) ∧ w'.cell? ⟨bz, 2, none⟩ = some (.int .i64 1) ∧ w'.cell? ⟨bz, 3, none⟩ = some (.bool D.zs[k].fin)) (first | with_reducible exact ⟨s0, s1, s2, s3, s4, x0, x1, x2, x3⟩ | with_reducible exact ⟨q0, q1, q2, q3, q4, q5, q6, q7, q8⟩ | ((with_reducible refine ⟨set5_cell ?_ q0, set5_cell ?_ q1, set5_cell ?_ q2, set5_cell ?_ q3, set5_cell ?_ q4, set5_cell ?_ q5, set5_cell ?_ q6, set5_cell ?_ q7, set5_cell ?_ q8⟩) <;> (dsimp only; omega)) | go_keep)
    (first | (go_at_call 87; (with_reducible refine Hput.out.mono ?_); rintro e w6 ⟨A', c', es', rfl, href, hb6⟩; have Href := hide href; have Hb6 := hide hb6; obtain ⟨q0, q1, q2, q3, q4, -⟩ := Blk.five ((hb6.block _ (show w.heap.size < wX.heap.size from KV3.out.lt)).trans KV3.out); obtain ⟨q5, q6, q7, q8, -⟩ := Blk.four ((hb6.block _ (show bz < wX.heap.size from KZ3.out.lt)).trans KZ3.out); have KT6 := hide (show Blk w6 (w.heap.size + 1 + 1) 31 _ from (hb6.block _ (show w.heap.size + 1 + 1 < wX.heap.size from KT3.out.lt)).trans KT3.out); obtain ⟨r0, r1, r2, r3, r4, g0, g1, g2, g3, g4⟩ := KT6.out.five))
  go_wp2_with fail
  refine bodyPost_ret (v := .tuple #[.agg #[.slice A' (D.tick.put k { D.zs[k] with L := D.zs[k].L ++ [s], state := 1 }).zs.length c', .int .i64 (D.tick.put k { D.zs[k] with L := D.zs[k].L ++ [s], state := 1 }).size, .int .i64 (D.tick.put k { D.zs[k] with L := D.zs[k].L ++ [s], state := 1 }).op, .int .i64 ((D.tick.put k { D.zs[k] with L := D.zs[k].L ++ [s], state := 1 }).n : Int), .bool (D.tick.put k { D.zs[k] with L := D.zs[k].L ++ [s], state := 1 }).down], .int .i64 (D.zs[k].L.length : Int), .int .i64 0]) ?_ rfl ?_
  · exact results_dev3 (fn := Try.f48) (p := 6) (u := 7) (x := 8) (g := w.heap.size + 1 + 1) rfl _ _ _ _ _ _ _ _ rfl rfl rfl (Blk.set5 KT6.out _ _ _ _ _)
  · rw [hfin.out]
    obtain ⟨q1, q2⟩ := storedX (G := G) (v0 := .slice A' (D.tick.put k { D.zs[k] with L := D.zs[k].L ++ [s], state := 1 }).zs.length c') (v1 := .int .i64 (D.tick.put k { D.zs[k] with L := D.zs[k].L ++ [s], state := 1 }).size) (v2 := .int .i64 (D.tick.put k { D.zs[k] with L := D.zs[k].L ++ [s], state := 1 }).op) (v3 := .int .i64 ((D.tick.put k { D.zs[k] with L := D.zs[k].L ++ [s], state := 1 }).n : Int)) (v4 := .bool (D.tick.put k { D.zs[k] with L := D.zs[k].L ++ [s], state := 1 }).down) (HB3.out.drew.trans (Hb6.out.mono HB3.out.size)) Href.out (r := w.heap.size + 1 + 1) (by omega) (fun i hi => by
      have h1 := HB3.out.size
      have h2 : w.heap.size + 1 + 1 < wX.heap.size := KT3.out.lt
      have h3 : wX.drew.heap.size = wX.heap.size := rfl
      rcases hi with (hi | hi) | hi
      · exact ⟨.inl hi.1, by omega⟩
      · exact ⟨.inr hi.1, hi.2⟩
      · exact ⟨.inr (by omega), by omega⟩)
    exact ⟨A', c', es', rfl, q1, q2⟩
set_option maxRecDepth 100000 in
set_option maxHeartbeats 2000000 in
theorem append_old_last (h : RefIs w D A c es G) (hn : D.n < 65536) (hl : D.zs.length < 65536) (hL : ∀ x ∈ D.zs, x.L.length < 65536) (k : Nat) (s : Sec) (hd : ¬ D.down = true) (hk : k < D.zs.length) (hz : ¬ D.zs[k].state = 0) (hf : failedOf D.zs[k].state = 0) (h2 : ¬ D.zs[k].state = 2) (hs : ((D.zs[k].L.length + 1 : Nat) : Int) = D.zs[k].size) (hsz : D.zs[k].size = D.size) : Calls Try.prog 48 #[.agg #[.slice A D.zs.length c, .int .i64 D.size, .int .i64 D.op, .int .i64 (D.n : Int), .bool D.down], .int .i64 (k : Int), s.agg] w (Gave3 w G (D.append (k : Int) s).1 (D.append (k : Int) s).2.1 (D.append (k : Int) s).2.2) := by
  have hfin0 := hide (Dv.append_in s hd hk (fun h => hz h.1))
  have hfin1 := hide (Zn.append_last (z := D.zs[k]) s hf h2 hs)
  have hfin : Hid (D.append (k : Int) s = (D.tick.put k { D.zs[k] with L := D.zs[k].L ++ [s], state := 2 }, (D.zs[k].L.length : Int), 0)) := hide (by rw [hfin0.out, hfin1.out])
  have e2 : (D.zs[k].state == 2) = false := beq_eq_false_iff_ne.2 h2
  have el1 : (((D.zs[k].L.length + 1 : Nat) : Int) == D.size) = true := by rw [hsz] at hs; exact beq_iff_eq.2 hs
  have el2 : ((D.zs[k].L.length : Int) + 1 == D.size) = true := el1
  clear hfin0 hfin1
  have ez : (D.zs[k].state == 0) = false := beq_eq_false_iff_ne.2 hz
  clear hz
  have ef : (failedOf D.zs[k].state != 0) = false := by simp [hf]
  have Hbe := hide (Dv.begin_in k hd hk)
  clear hd hf h2 hs hsz
  have hB : Below w.heap.size w (((w.alloc (.cells #[.slice A D.zs.length c, .int .i64 D.size, .int .i64 D.op, .int .i64 (D.n : Int), .bool D.down] 31)).alloc (.cells s.cs.toArray 33)).alloc (.cells #[.slice none 0 0, .int .i64 0, .int .i64 0, .int .i64 0, .bool false] 31)) := (((Below.refl _ w).alloc (Nat.le_refl _) _).alloc (by simp) _).alloc (by simp; omega) _
  have k0 := ((Blk.new w 31 #[.slice A D.zs.length c, .int .i64 D.size, .int .i64 D.op, .int .i64 (D.n : Int), .bool D.down]).alloc (.cells s.cs.toArray 33)).alloc (.cells #[.slice none 0 0, .int .i64 0, .int .i64 0, .int .i64 0, .bool false] 31)
  have kp := (Blk.new (w.alloc (.cells #[.slice A D.zs.length c, .int .i64 D.size, .int .i64 D.op, .int .i64 (D.n : Int), .bool D.down] 31)) 33 s.cs.toArray).alloc (.cells #[.slice none 0 0, .int .i64 0, .int .i64 0, .int .i64 0, .bool false] 31)
  have k1 := Blk.new ((w.alloc (.cells #[.slice A D.zs.length c, .int .i64 D.size, .int .i64 D.op, .int .i64 (D.n : Int), .bool D.down] 31)).alloc (.cells s.cs.toArray 33)) 31 #[.slice none 0 0, .int .i64 0, .int .i64 0, .int .i64 0, .bool false]
  rw [World.size_alloc] at kp
  rw [World.size_alloc, World.size_alloc] at k1
  have h' := hide h
  have Hl := hide hl
  have HLen := hide hL
  have Hn := hide hn
  clear h hl hL hn
  unfold Sec.agg
  go_enter Try.func48, Try.ntmps48
  go_wp2_with fail
  generalize hW : World.alloc (World.alloc (World.alloc w _) _) _ = W2
  have hW' : (((w.alloc (.cells #[.slice A D.zs.length c, .int .i64 D.size, .int .i64 D.op, .int .i64 (D.n : Int), .bool D.down] 31)).alloc (.cells s.cs.toArray 33)).alloc (.cells #[.slice none 0 0, .int .i64 0, .int .i64 0, .int .i64 0, .bool false] 31)) = W2 := hW
  rw [hW'] at hB k0 kp k1
  clear hW hW'
  have HB := hide hB
  have K0 := hide k0
  have Kp := hide kp
  have K1 := hide k1
  have Hbg := begin_any D A c (k : Int) W2 Hn.out
  rw [Hbe.out] at Hbg
  have Hbg := hide Hbg
  clear hB k0 kp k1
  refine Hbg.out.mono ?_
  rintro e w1 ⟨rfl, hb1⟩
  have k01 : Blk w1 w.heap.size 31 _ := (hb1.block _ K0.out.lt).trans K0.out
  obtain ⟨y0, y1, y2, y3, y4, fy0, fy1, fy2, fy3, fy4⟩ := k01.five
  have Haft := hide (after5 (.slice A D.zs.length c) (.int .i64 D.size) (.int .i64 D.op) (.int .i64 ((D.tick.n : Nat) : Int)) (.bool D.down) HB.out (Nat.le_refl _) K0.out h'.out hb1)
  clear hb1 k01 Hbg
  go_upto_region 2 with (fail)
  obtain ⟨KS, hbs, hrs, Hoth⟩ := Haft.out
  have KSp := hide (Hoth (w.heap.size + 1) _ _ (by omega) Kp.out)
  have KS1 := hide (Hoth (w.heap.size + 1 + 1) _ _ (by omega) K1.out)
  have KS0 := hide KS
  have HBS := hide hbs
  have HRS := hide hrs
  clear KS hbs hrs Hoth Haft y0 y1 y2 y3 y4 fy0 fy1 fy2 fy3 fy4 K0 K1 Kp
  generalize ((((w1.setCell _ _).setCell _ _).setCell _ _).setCell _ _).setCell _ _ = wS at KS0 KS1 KSp HBS HRS ⊢
  obtain ⟨s0, s1, s2, s3, s4, -⟩ := KS0.out.five
  obtain ⟨r0, r1, r2, r3, r4, g0, g1, g2, g3, g4⟩ := KS1.out.five
  obtain ⟨g, rfl, hlc, hgl, hk', hez, x0, x1, x2, x3⟩ := HRS.out.at_ hk
  have Hez := hide hez
  clear hez
  go_upto_region 5 with (fail)
  have hbl0 : w.heap.size < wS.heap.size := KS0.out.lt
  have kz := Blk.new wS 93 #[.slice es[k].a D.zs[k].L.length es[k].c, .int .i64 (D.zs[k].safe : Int), .int .i64 D.zs[k].state, .bool D.zs[k].fin]
  have hbz : Below wS.heap.size wS (wS.alloc (.cells #[.slice es[k].a D.zs[k].L.length es[k].c, .int .i64 (D.zs[k].safe : Int), .int .i64 D.zs[k].state, .bool D.zs[k].fin] 93)) := (Below.refl _ wS).alloc (Nat.le_refl _) _
  have kV := (hbz.block _ KS0.out.lt).trans KS0.out
  have kT := (hbz.block _ KS1.out.lt).trans KS1.out
  have kU := (hbz.block _ KSp.out.lt).trans KSp.out
  have KT := hide (show Blk _ (w.heap.size + 1 + 1) 31 _ from kT)
  have KU := hide (show Blk _ (w.heap.size + 1) 33 _ from kU)
  have KV := hide (show Blk _ w.heap.size 31 _ from kV)
  have KZ := hide kz
  have HT := hide (HBS.out.trans (hbz.mono HBS.out.size))
  have HRT := hide (HRS.out.below hbz)
  clear kT kU kV hbz kz s0 s1 s2 s3 s4 r0 r1 r2 r3 r4 g0 g1 g2 g3 g4 x0 x1 x2 x3
  generalize (wS.alloc (.cells #[.slice es[k].a D.zs[k].L.length es[k].c, .int .i64 (D.zs[k].safe : Int), .int .i64 D.zs[k].state, .bool D.zs[k].fin] 93)) = wZ at KT KU KV KZ HT HRT ⊢
  have Hzs := hide (show w.heap.size + 1 + 1 < wS.heap.size from KS1.out.lt)
  have Hg : Hid (g < wS.heap.size) := hide hgl
  clear KS0 KS1 KSp HRS hgl
  obtain ⟨bz, hbzq⟩ : ∃ b, b = wS.heap.size := ⟨_, rfl⟩
  rw [← hbzq] at KZ Hzs Hg ⊢
  have Hbz := hide hbzq
  clear hbzq hbl0
  obtain ⟨s0, s1, s2, s3, s4, -⟩ := KV.out.five
  obtain ⟨r0, r1, r2, r3, r4, g0, g1, g2, g3, g4⟩ := KT.out.five
  obtain ⟨x0, x1, x2, x3, -⟩ := KZ.out.four
  go_quiet (fail)
  go_upto_region 7 with (fail)
  have hbY : Below wZ.heap.size wZ (wZ.drewN nq) := ((Mods.refl (fun _ => False) wZ).drewN nq).below (Nat.le_refl _) (fun _ h => h.elim)
  have kT := (hbY.block _ KT.out.lt).trans KT.out
  have kU := (hbY.block _ KU.out.lt).trans KU.out
  have kV := (hbY.block _ KV.out.lt).trans KV.out
  have kZ := (hbY.block _ KZ.out.lt).trans KZ.out
  have hT := HT.out.trans (hbY.mono HT.out.size)
  have hRT := HRT.out.below hbY
  clear s0 s1 s2 s3 s4 r0 r1 r2 r3 r4 g0 g1 g2 g3 g4 x0 x1 x2 x3 KT KU KV KZ HT HRT
  have KT := hide (show Blk (wZ.drewN nq) (w.heap.size + 1 + 1) 31 _ from kT)
  have KU := hide (show Blk (wZ.drewN nq) (w.heap.size + 1) 33 _ from kU)
  have KV := hide (show Blk (wZ.drewN nq) w.heap.size 31 _ from kV)
  have KZ := hide (show Blk (wZ.drewN nq) bz 93 _ from kZ)
  have HT := hide hT
  have HRT := hide hRT
  clear kT kU kV kZ hT hRT
  clear hbY
  generalize wZ.drewN nq = wY at KT KU KV KZ HT HRT ⊢
  obtain ⟨s0, s1, s2, s3, s4, -⟩ := KV.out.five
  obtain ⟨r0, r1, r2, r3, r4, g0, g1, g2, g3, g4⟩ := KT.out.five
  obtain ⟨x0, x1, x2, x3, -⟩ := KZ.out.four
  go_upto_region 9 with (go_at_call 86; refine (failed_any _ _ _ _ _ _ _).mono ?_; rintro e w' ⟨rfl, rfl⟩)
  have hbV : Below wY.heap.size wY (wY.alloc (.cells #[.slice es[k].a D.zs[k].L.length es[k].c, .int .i64 (D.zs[k].safe : Int), .int .i64 D.zs[k].state, .bool D.zs[k].fin] 93)) := (Below.refl _ wY).alloc (Nat.le_refl _) _
  have kT := (hbV.block _ KT.out.lt).trans KT.out
  have kU := (hbV.block _ KU.out.lt).trans KU.out
  have kV := (hbV.block _ KV.out.lt).trans KV.out
  have kZ := (hbV.block _ KZ.out.lt).trans KZ.out
  have hT := HT.out.trans (hbV.mono HT.out.size)
  have hRT := HRT.out.below hbV
  clear s0 s1 s2 s3 s4 r0 r1 r2 r3 r4 g0 g1 g2 g3 g4 x0 x1 x2 x3 KT KU KV KZ HT HRT
  have KT := hide (show Blk (wY.alloc (.cells #[.slice es[k].a D.zs[k].L.length es[k].c, .int .i64 (D.zs[k].safe : Int), .int .i64 D.zs[k].state, .bool D.zs[k].fin] 93)) (w.heap.size + 1 + 1) 31 _ from kT)
  have KU := hide (show Blk (wY.alloc (.cells #[.slice es[k].a D.zs[k].L.length es[k].c, .int .i64 (D.zs[k].safe : Int), .int .i64 D.zs[k].state, .bool D.zs[k].fin] 93)) (w.heap.size + 1) 33 _ from kU)
  have KV := hide (show Blk (wY.alloc (.cells #[.slice es[k].a D.zs[k].L.length es[k].c, .int .i64 (D.zs[k].safe : Int), .int .i64 D.zs[k].state, .bool D.zs[k].fin] 93)) w.heap.size 31 _ from kV)
  have KZ := hide (show Blk (wY.alloc (.cells #[.slice es[k].a D.zs[k].L.length es[k].c, .int .i64 (D.zs[k].safe : Int), .int .i64 D.zs[k].state, .bool D.zs[k].fin] 93)) bz 93 _ from kZ)
  have HT := hide hT
  have HRT := hide hRT
  clear kT kU kV kZ hT hRT
  clear hbV
  generalize (wY.alloc (.cells #[.slice es[k].a D.zs[k].L.length es[k].c, .int .i64 (D.zs[k].safe : Int), .int .i64 D.zs[k].state, .bool D.zs[k].fin] 93)) = wV at KT KU KV KZ HT HRT ⊢
  obtain ⟨s0, s1, s2, s3, s4, -⟩ := KV.out.five
  obtain ⟨r0, r1, r2, r3, r4, g0, g1, g2, g3, g4⟩ := KT.out.five
  obtain ⟨x0, x1, x2, x3, -⟩ := KZ.out.four
  go_upto_region 11 with (fail)
  obtain ⟨i0, hi, hz0, hz1, hz2⟩ := info_parts infoA
  have hrow : wV.ownsRow 0 33 64 (.slice es[k].a D.zs[k].L.length es[k].c) D.zs[k].L.length (D.zs[k].L.flatMap Sec.cs) := by rw [← Hez.out]; exact HRT.out.row _ (List.getElem_mem hk')
  have Hrow := hide hrow
  have hone := hide (flat_one D.zs[k].L)
  have hLk := HLen.out _ (List.getElem_mem hk)
  clear hrow
  go_upto_region 13 with (at_builtin; refine wpList_append_src _ rfl (.tmp 48) (.tmp 50) 91 rfl wV.heap.size 33 i0 _ 64 64 Try.underlying91 hi hz0 hz1 hz2 rfl (by decide) (.slice none 0 0) 0 [] rfl (World.ownsRow_nil _ _ _ _) es[k].a D.zs[k].L.length es[k].c (D.zs[k].L.flatMap Sec.cs) rfl Hrow.out hone.out (by unfold maxLen; omega) (by omega) (Nat.le_refl _) ?_; intro v1 w1 hown1 hgrow1 hat1; simp only [Nat.zero_add, List.nil_append] at hown1 hat1; obtain ⟨A1, c1, rfl⟩ := own_form hown1)
  have hbzV : bz < wV.heap.size := KZ.out.lt
  have hb1 : Below wV.heap.size wV w1 := (Below.refl _ wV).grown hgrow1 (Nat.le_refl _) (fun k hk => by simp [Value.ownBlock] at hk)
  have kT := (hb1.block _ KT.out.lt).trans KT.out
  have kU := (hb1.block _ KU.out.lt).trans KU.out
  have kV := (hb1.block _ KV.out.lt).trans KV.out
  have kZ := (hb1.block _ KZ.out.lt).trans KZ.out
  have hT := HT.out.trans (hb1.mono HT.out.size)
  have hRT := HRT.out.below hb1
  clear s0 s1 s2 s3 s4 r0 r1 r2 r3 r4 g0 g1 g2 g3 g4 x0 x1 x2 x3 KT KU KV KZ HT HRT
  have KT := hide (show Blk w1 (w.heap.size + 1 + 1) 31 _ from kT)
  have KU := hide (show Blk w1 (w.heap.size + 1) 33 _ from kU)
  have KV := hide (show Blk w1 w.heap.size 31 _ from kV)
  have KZ := hide (show Blk w1 bz 93 _ from kZ)
  have HT := hide hT
  have HRT := hide hRT
  clear kT kU kV kZ hT hRT
  have Hb1 := hide hb1
  have Hown1 := hide hown1
  clear hb1 hgrow1 hat1
  have hne1 : ∀ b, b < wV.heap.size → some b ≠ (Value.slice A1 D.zs[k].L.length c1).ownBlock := fun b hb e => by have := (Hown1.out.lt _ e.symm).1; omega
  have Hne1 := hide hne1
  have hbV : bz < wV.heap.size := hbzV
  have HKV := hide (show w.heap.size + 1 + 1 < bz from Hzs.out)
  clear hne1
  go_upto_region 14 with (first | ((with_reducible refine wpList_load_mid ?qg 33 (.tmp 5) ?qo (w.heap.size + 1) 0 ?qx s.cs ?qd ?qr ?qu ?qf ?qi ?_); (case qg => exact rfl); (case qo => exact rfl); (case qx => exact rfl); (case qr => exact ZD.range_blk s KU.out); (case qu => exact Try.underlying33); (case qf => exact rfl); (case qi => exact sizeAx s)) | ((with_reducible refine wpList_build1 ?pg s (.tmp 53) ?po ?px ?_); (case pg => exact rfl); (case po => exact rfl); (case px => exact rfl)) | (at_builtin; refine wpList_append_own_at _ rfl (.tmp 52) (.tmp 54) 91 rfl 0 33 i0 _ 64 64 Try.underlying91 hi hz0 hz1 hz2 rfl (by decide) (.slice A1 D.zs[k].L.length c1) _ _ ?_ (own_base (Hown1.out.alloc _)) ⟨w1.heap.size, 0, none⟩ 1 1 s.cs ?_ (by rw [Sec.len]) (cells_new _ _ _) s.one (by unfold maxLen; omega) (by omega) (by simp) ?_; exact rfl; exact rfl; intro v2 w2 hown2 hgrow2 hnil2 hat2; obtain ⟨A2, c2, rfl⟩ := own_form hown2; have KZ2 := hide ((KZ.out.alloc (.cells s.cs.toArray 33)).grown hgrow2 (Hne1.out _ hbV)); have Hgrow2 := hide hgrow2; have Hown2 := hide hown2; have Hat2 := hide hat2; clear hgrow2 hown2 hat2 hnil2; obtain ⟨x0, x1, x2, x3, f0, f1, f2, f3⟩ := KZ2.out.four))
  have KT2 := hide ((KT.out.alloc (.cells s.cs.toArray 33)).grown Hgrow2.out (Hne1.out _ (by have := HKV.out; omega)))
  have KV2 := hide ((KV.out.alloc (.cells s.cs.toArray 33)).grown Hgrow2.out (Hne1.out _ (by have := HKV.out; omega)))
  have hb2 : Below w.heap.size w w2 := (HT.out.alloc HT.out.size (.cells s.cs.toArray 33)).grown Hgrow2.out (by have := HT.out.size; simp; omega) (fun b e => by have := (Hown1.out.lt _ e).1; have := HKV.out; omega)
  have hge2 : ∀ b, (Value.slice A2 (D.zs[k].L.length + 1) c2).ownBlock = some b → wV.heap.size ≤ b := fun b e => by
    have := Hb1.out.size
    rcases Hat2.out with h | h
    · rw [h] at e; exact (Hown1.out.lt _ e).1
    · rw [h] at e; simp at e; omega
  have HB2 := hide hb2
  have Hge2 := hide hge2
  clear Hgrow2 Hat2 hb2 hge2
  obtain ⟨s0, s1, s2, s3, s4, -⟩ := KV2.out.five
  go_upto_region 17 with (fail)
  have kt3 : Blk (((w2.setCell ⟨bz, 0, none⟩ (.slice A2 (D.zs[k].L.length + 1) c2)).setCell ⟨bz, 2, none⟩ (.int .i64 1)).setCell ⟨bz, 2, none⟩ (.int .i64 2)) (w.heap.size + 1 + 1) 31 _ := ((KT2.out.far (p := ⟨bz, 0, none⟩) (by simp; have := HKV.out; omega) _).far (p := ⟨bz, 2, none⟩) (by simp; have := HKV.out; omega) _).far (p := ⟨bz, 2, none⟩) (by simp; have := HKV.out; omega) _
  have kv3 : Blk (((w2.setCell ⟨bz, 0, none⟩ (.slice A2 (D.zs[k].L.length + 1) c2)).setCell ⟨bz, 2, none⟩ (.int .i64 1)).setCell ⟨bz, 2, none⟩ (.int .i64 2)) w.heap.size 31 _ := ((KV2.out.far (p := ⟨bz, 0, none⟩) (by simp; have := HKV.out; omega) _).far (p := ⟨bz, 2, none⟩) (by simp; have := HKV.out; omega) _).far (p := ⟨bz, 2, none⟩) (by simp; have := HKV.out; omega) _
  have kz3 : Blk (((w2.setCell ⟨bz, 0, none⟩ (.slice A2 (D.zs[k].L.length + 1) c2)).setCell ⟨bz, 2, none⟩ (.int .i64 1)).setCell ⟨bz, 2, none⟩ (.int .i64 2)) bz 93 #[(.slice A2 (D.zs[k].L.length + 1) c2), .int .i64 (D.zs[k].safe : Int), .int .i64 2, .bool D.zs[k].fin] := by simpa using ((KZ2.out.set_ 0 (.slice A2 (D.zs[k].L.length + 1) c2)).set_ 2 (.int .i64 1)).set_ 2 (.int .i64 2)
  have hm3 : Mods (fun b => b = bz) w2 (((w2.setCell ⟨bz, 0, none⟩ (.slice A2 (D.zs[k].L.length + 1) c2)).setCell ⟨bz, 2, none⟩ (.int .i64 1)).setCell ⟨bz, 2, none⟩ (.int .i64 2)) := (((Mods.refl (fun b => b = bz) w2).setCell (p := ⟨bz, 0, none⟩) (.inl rfl) _).setCell (p := ⟨bz, 2, none⟩) (.inl rfl) _).setCell (p := ⟨bz, 2, none⟩) (.inl rfl) _
  have hb3 := HB2.out.trans (hm3.below (B := w.heap.size) HB2.out.size (fun b e => by have := HKV.out; omega))
  have hown3 := own_mods Hown2.out hm3 (fun b e => by have := Hge2.out b e; omega)
  have KT3 := hide kt3
  have KV3 := hide kv3
  have KZ3 := hide kz3
  have HB3 := hide hb3
  have Hown3 := hide hown3
  clear kt3 kv3 kz3 hm3 hb3 hown3 KT2 KV2 KZ2 HB2 Hown2 s0 s1 s2 s3 s4 x0 x1 x2 x3 f0 f1 f2 f3
  generalize (((w2.setCell ⟨bz, 0, none⟩ (.slice A2 (D.zs[k].L.length + 1) c2)).setCell ⟨bz, 2, none⟩ (.int .i64 1)).setCell ⟨bz, 2, none⟩ (.int .i64 2)) = wX at KT3 KV3 KZ3 HB3 Hown3 ⊢
  have hll : (D.zs[k].L ++ [s]).length = D.zs[k].L.length + 1 := by simp
  have hD : Below w.heap.size w wX.drew := HB3.out.drew
  have href := ((h'.out.tight.below hD).mono (G' := fun i => (G i ∧ i < w.heap.size) ∨ (w.heap.size ≤ i ∧ i ≠ w.heap.size + 1 + 1)) (fun i hi => .inl hi)).tick
  have hput := put_any (D := D.tick) href Hl.out k hk ⟨{ D.zs[k] with L := D.zs[k].L ++ [s], state := 2 }, A2, c2⟩ (by dsimp only; rw [hll, flat_snoc]; exact Hown3.out) (by intro i hi; dsimp only at hi; rw [hll] at hi; have h1 := Hge2.out i hi; have h2 := HKV.out; have h3 := hbV; right; omega)
  dsimp only at hput
  rw [hll] at hput
  have Hput : Hid (Calls Try.prog 87 #[.agg #[.slice (some ⟨g, 0, none⟩) D.zs.length c, .int .i64 D.size, .int .i64 D.op, .int .i64 (D.tick.n : Int), .bool D.down], .int .i64 (k : Int), .agg #[(.slice A2 (D.zs[k].L.length + 1) c2), .int .i64 (D.zs[k].safe : Int), .int .i64 2, .bool D.zs[k].fin]] wX.drew (Put wX.drew (fun i => (G i ∧ i < w.heap.size) ∨ (w.heap.size ≤ i ∧ i ≠ w.heap.size + 1 + 1)) (D.tick.put k { D.zs[k] with L := D.zs[k].L ++ [s], state := 2 }))) := hide hput
  clear hput href hll hD
  have ew : IntKind.i64.wrap (((D.zs[k].L.length + 1 : Nat) : Int) - 1) = (D.zs[k].L.length : Int) := by rw [show ((D.zs[k].L.length + 1 : Nat) : Int) - 1 = (D.zs[k].L.length : Int) by omega]; exact IntWalk.i64_in _ (by omega)
  have ew2 : IntKind.i64.wrap ((D.zs[k].L.length : Int) + 1 - 1) = (D.zs[k].L.length : Int) := by rw [show (D.zs[k].L.length : Int) + 1 - 1 = (D.zs[k].L.length : Int) by omega]; exact IntWalk.i64_in _ (by omega)
  have ew3 : IntKind.i64.wrap (D.zs[k].L.length : Int) = (D.zs[k].L.length : Int) := IntWalk.i64_in _ (by omega)
  obtain ⟨s0, s1, s2, s3, s4, -⟩ := Blk.five (show Blk wX.drew w.heap.size 31 _ from KV3.out)
  obtain ⟨x0, x1, x2, x3, -⟩ := Blk.four (show Blk wX.drew bz 93 _ from KZ3.out)
  have hnb : ¬ bz = w.heap.size + 1 + 1 := by have := HKV.out; omega
  have hnb2 : ¬ w.heap.size + 1 + 1 = bz := fun e => hnb e.symm
  clear hbV hLk hlc
  go_region_held3 (fun w' => w'.cell? ⟨w.heap.size, 0, none⟩ = some (.slice (some ⟨g, 0, none⟩) D.zs.length c) ∧ w'.cell? ⟨w.heap.size, 1, none⟩ = some (.int .i64 D.size) ∧ w'.cell? ⟨w.heap.size, 2, none⟩ = some (.int .i64 D.op) ∧ w'.cell? ⟨w.heap.size, 3, none⟩ = some (.int .i64 (D.tick.n : Int)) ∧ w'.cell? ⟨w.heap.size, 4, none⟩ = some (.bool D.down) ∧ w'.cell? ⟨bz, 0, none⟩ = some (.slice A2 (D.zs[k].L.length + 1) c2) ∧ w'.cell? ⟨bz, 1, none⟩ = some (.int .i64 (D.zs[k].safe : Int)) ∧ w'.cell? ⟨bz, 2, none⟩ = some (.int .i64 2) ∧ w'.cell? ⟨bz, 3, none⟩ = some (.bool D.zs[k].fin)) (first | with_reducible exact ⟨s0, s1, s2, s3, s4, x0, x1, x2, x3⟩ | with_reducible exact ⟨q0, q1, q2, q3, q4, q5, q6, q7, q8⟩ | ((with_reducible refine ⟨set5_cell ?_ q0, set5_cell ?_ q1, set5_cell ?_ q2, set5_cell ?_ q3, set5_cell ?_ q4, set5_cell ?_ q5, set5_cell ?_ q6, set5_cell ?_ q7, set5_cell ?_ q8⟩) <;> (dsimp only; omega)) | go_keep)
    (first | (go_at_call 87; (with_reducible refine Hput.out.mono ?_); rintro e w6 ⟨A', c', es', rfl, href, hb6⟩; have Href := hide href; have Hb6 := hide hb6; obtain ⟨q0, q1, q2, q3, q4, -⟩ := Blk.five ((hb6.block _ (show w.heap.size < wX.heap.size from KV3.out.lt)).trans KV3.out); obtain ⟨q5, q6, q7, q8, -⟩ := Blk.four ((hb6.block _ (show bz < wX.heap.size from KZ3.out.lt)).trans KZ3.out); have KT6 := hide (show Blk w6 (w.heap.size + 1 + 1) 31 _ from (hb6.block _ (show w.heap.size + 1 + 1 < wX.heap.size from KT3.out.lt)).trans KT3.out); obtain ⟨r0, r1, r2, r3, r4, g0, g1, g2, g3, g4⟩ := KT6.out.five))
  go_wp2_with fail
  refine bodyPost_ret (v := .tuple #[.agg #[.slice A' (D.tick.put k { D.zs[k] with L := D.zs[k].L ++ [s], state := 2 }).zs.length c', .int .i64 (D.tick.put k { D.zs[k] with L := D.zs[k].L ++ [s], state := 2 }).size, .int .i64 (D.tick.put k { D.zs[k] with L := D.zs[k].L ++ [s], state := 2 }).op, .int .i64 ((D.tick.put k { D.zs[k] with L := D.zs[k].L ++ [s], state := 2 }).n : Int), .bool (D.tick.put k { D.zs[k] with L := D.zs[k].L ++ [s], state := 2 }).down], .int .i64 (D.zs[k].L.length : Int), .int .i64 0]) ?_ rfl ?_
  · exact results_dev3 (fn := Try.f48) (p := 6) (u := 7) (x := 8) (g := w.heap.size + 1 + 1) rfl _ _ _ _ _ _ _ _ rfl rfl rfl (Blk.set5 KT6.out _ _ _ _ _)
  · rw [hfin.out]
    obtain ⟨q1, q2⟩ := storedX (G := G) (v0 := .slice A' (D.tick.put k { D.zs[k] with L := D.zs[k].L ++ [s], state := 2 }).zs.length c') (v1 := .int .i64 (D.tick.put k { D.zs[k] with L := D.zs[k].L ++ [s], state := 2 }).size) (v2 := .int .i64 (D.tick.put k { D.zs[k] with L := D.zs[k].L ++ [s], state := 2 }).op) (v3 := .int .i64 ((D.tick.put k { D.zs[k] with L := D.zs[k].L ++ [s], state := 2 }).n : Int)) (v4 := .bool (D.tick.put k { D.zs[k] with L := D.zs[k].L ++ [s], state := 2 }).down) (HB3.out.drew.trans (Hb6.out.mono HB3.out.size)) Href.out (r := w.heap.size + 1 + 1) (by omega) (fun i hi => by
      have h1 := HB3.out.size
      have h2 : w.heap.size + 1 + 1 < wX.heap.size := KT3.out.lt
      have h3 : wX.drew.heap.size = wX.heap.size := rfl
      rcases hi with (hi | hi) | hi
      · exact ⟨.inl hi.1, by omega⟩
      · exact ⟨.inr hi.1, hi.2⟩
      · exact ⟨.inr (by omega), by omega⟩)
    exact ⟨A', c', es', rfl, q1, q2⟩
set_option maxRecDepth 100000 in
set_option maxHeartbeats 2000000 in
theorem append_old_more (h : RefIs w D A c es G) (hn : D.n < 65536) (hl : D.zs.length < 65536) (hL : ∀ x ∈ D.zs, x.L.length < 65536) (k : Nat) (s : Sec) (hd : ¬ D.down = true) (hk : k < D.zs.length) (hz : ¬ D.zs[k].state = 0) (hf : failedOf D.zs[k].state = 0) (h2 : ¬ D.zs[k].state = 2) (hs : ¬ ((D.zs[k].L.length + 1 : Nat) : Int) = D.zs[k].size) (hsz : D.zs[k].size = D.size) : Calls Try.prog 48 #[.agg #[.slice A D.zs.length c, .int .i64 D.size, .int .i64 D.op, .int .i64 (D.n : Int), .bool D.down], .int .i64 (k : Int), s.agg] w (Gave3 w G (D.append (k : Int) s).1 (D.append (k : Int) s).2.1 (D.append (k : Int) s).2.2) := by
  have hfin0 := hide (Dv.append_in s hd hk (fun h => hz h.1))
  have hfin1 := hide (Zn.append_more (z := D.zs[k]) s hf h2 hs)
  have hfin : Hid (D.append (k : Int) s = (D.tick.put k { D.zs[k] with L := D.zs[k].L ++ [s], state := 1 }, (D.zs[k].L.length : Int), 0)) := hide (by rw [hfin0.out, hfin1.out])
  have e2 : (D.zs[k].state == 2) = false := beq_eq_false_iff_ne.2 h2
  have el1 : (((D.zs[k].L.length + 1 : Nat) : Int) == D.size) = false := by rw [hsz] at hs; exact beq_eq_false_iff_ne.2 hs
  have el2 : ((D.zs[k].L.length : Int) + 1 == D.size) = false := el1
  clear hfin0 hfin1
  have ez : (D.zs[k].state == 0) = false := beq_eq_false_iff_ne.2 hz
  clear hz
  have ef : (failedOf D.zs[k].state != 0) = false := by simp [hf]
  have Hbe := hide (Dv.begin_in k hd hk)
  clear hd hf h2 hs hsz
  have hB : Below w.heap.size w (((w.alloc (.cells #[.slice A D.zs.length c, .int .i64 D.size, .int .i64 D.op, .int .i64 (D.n : Int), .bool D.down] 31)).alloc (.cells s.cs.toArray 33)).alloc (.cells #[.slice none 0 0, .int .i64 0, .int .i64 0, .int .i64 0, .bool false] 31)) := (((Below.refl _ w).alloc (Nat.le_refl _) _).alloc (by simp) _).alloc (by simp; omega) _
  have k0 := ((Blk.new w 31 #[.slice A D.zs.length c, .int .i64 D.size, .int .i64 D.op, .int .i64 (D.n : Int), .bool D.down]).alloc (.cells s.cs.toArray 33)).alloc (.cells #[.slice none 0 0, .int .i64 0, .int .i64 0, .int .i64 0, .bool false] 31)
  have kp := (Blk.new (w.alloc (.cells #[.slice A D.zs.length c, .int .i64 D.size, .int .i64 D.op, .int .i64 (D.n : Int), .bool D.down] 31)) 33 s.cs.toArray).alloc (.cells #[.slice none 0 0, .int .i64 0, .int .i64 0, .int .i64 0, .bool false] 31)
  have k1 := Blk.new ((w.alloc (.cells #[.slice A D.zs.length c, .int .i64 D.size, .int .i64 D.op, .int .i64 (D.n : Int), .bool D.down] 31)).alloc (.cells s.cs.toArray 33)) 31 #[.slice none 0 0, .int .i64 0, .int .i64 0, .int .i64 0, .bool false]
  rw [World.size_alloc] at kp
  rw [World.size_alloc, World.size_alloc] at k1
  have h' := hide h
  have Hl := hide hl
  have HLen := hide hL
  have Hn := hide hn
  clear h hl hL hn
  unfold Sec.agg
  go_enter Try.func48, Try.ntmps48
  go_wp2_with fail
  generalize hW : World.alloc (World.alloc (World.alloc w _) _) _ = W2
  have hW' : (((w.alloc (.cells #[.slice A D.zs.length c, .int .i64 D.size, .int .i64 D.op, .int .i64 (D.n : Int), .bool D.down] 31)).alloc (.cells s.cs.toArray 33)).alloc (.cells #[.slice none 0 0, .int .i64 0, .int .i64 0, .int .i64 0, .bool false] 31)) = W2 := hW
  rw [hW'] at hB k0 kp k1
  clear hW hW'
  have HB := hide hB
  have K0 := hide k0
  have Kp := hide kp
  have K1 := hide k1
  have Hbg := begin_any D A c (k : Int) W2 Hn.out
  rw [Hbe.out] at Hbg
  have Hbg := hide Hbg
  clear hB k0 kp k1
  refine Hbg.out.mono ?_
  rintro e w1 ⟨rfl, hb1⟩
  have k01 : Blk w1 w.heap.size 31 _ := (hb1.block _ K0.out.lt).trans K0.out
  obtain ⟨y0, y1, y2, y3, y4, fy0, fy1, fy2, fy3, fy4⟩ := k01.five
  have Haft := hide (after5 (.slice A D.zs.length c) (.int .i64 D.size) (.int .i64 D.op) (.int .i64 ((D.tick.n : Nat) : Int)) (.bool D.down) HB.out (Nat.le_refl _) K0.out h'.out hb1)
  clear hb1 k01 Hbg
  go_upto_region 2 with (fail)
  obtain ⟨KS, hbs, hrs, Hoth⟩ := Haft.out
  have KSp := hide (Hoth (w.heap.size + 1) _ _ (by omega) Kp.out)
  have KS1 := hide (Hoth (w.heap.size + 1 + 1) _ _ (by omega) K1.out)
  have KS0 := hide KS
  have HBS := hide hbs
  have HRS := hide hrs
  clear KS hbs hrs Hoth Haft y0 y1 y2 y3 y4 fy0 fy1 fy2 fy3 fy4 K0 K1 Kp
  generalize ((((w1.setCell _ _).setCell _ _).setCell _ _).setCell _ _).setCell _ _ = wS at KS0 KS1 KSp HBS HRS ⊢
  obtain ⟨s0, s1, s2, s3, s4, -⟩ := KS0.out.five
  obtain ⟨r0, r1, r2, r3, r4, g0, g1, g2, g3, g4⟩ := KS1.out.five
  obtain ⟨g, rfl, hlc, hgl, hk', hez, x0, x1, x2, x3⟩ := HRS.out.at_ hk
  have Hez := hide hez
  clear hez
  go_upto_region 5 with (fail)
  have hbl0 : w.heap.size < wS.heap.size := KS0.out.lt
  have kz := Blk.new wS 93 #[.slice es[k].a D.zs[k].L.length es[k].c, .int .i64 (D.zs[k].safe : Int), .int .i64 D.zs[k].state, .bool D.zs[k].fin]
  have hbz : Below wS.heap.size wS (wS.alloc (.cells #[.slice es[k].a D.zs[k].L.length es[k].c, .int .i64 (D.zs[k].safe : Int), .int .i64 D.zs[k].state, .bool D.zs[k].fin] 93)) := (Below.refl _ wS).alloc (Nat.le_refl _) _
  have kV := (hbz.block _ KS0.out.lt).trans KS0.out
  have kT := (hbz.block _ KS1.out.lt).trans KS1.out
  have kU := (hbz.block _ KSp.out.lt).trans KSp.out
  have KT := hide (show Blk _ (w.heap.size + 1 + 1) 31 _ from kT)
  have KU := hide (show Blk _ (w.heap.size + 1) 33 _ from kU)
  have KV := hide (show Blk _ w.heap.size 31 _ from kV)
  have KZ := hide kz
  have HT := hide (HBS.out.trans (hbz.mono HBS.out.size))
  have HRT := hide (HRS.out.below hbz)
  clear kT kU kV hbz kz s0 s1 s2 s3 s4 r0 r1 r2 r3 r4 g0 g1 g2 g3 g4 x0 x1 x2 x3
  generalize (wS.alloc (.cells #[.slice es[k].a D.zs[k].L.length es[k].c, .int .i64 (D.zs[k].safe : Int), .int .i64 D.zs[k].state, .bool D.zs[k].fin] 93)) = wZ at KT KU KV KZ HT HRT ⊢
  have Hzs := hide (show w.heap.size + 1 + 1 < wS.heap.size from KS1.out.lt)
  have Hg : Hid (g < wS.heap.size) := hide hgl
  clear KS0 KS1 KSp HRS hgl
  obtain ⟨bz, hbzq⟩ : ∃ b, b = wS.heap.size := ⟨_, rfl⟩
  rw [← hbzq] at KZ Hzs Hg ⊢
  have Hbz := hide hbzq
  clear hbzq hbl0
  obtain ⟨s0, s1, s2, s3, s4, -⟩ := KV.out.five
  obtain ⟨r0, r1, r2, r3, r4, g0, g1, g2, g3, g4⟩ := KT.out.five
  obtain ⟨x0, x1, x2, x3, -⟩ := KZ.out.four
  go_quiet (fail)
  go_upto_region 7 with (fail)
  have hbY : Below wZ.heap.size wZ (wZ.drewN nq) := ((Mods.refl (fun _ => False) wZ).drewN nq).below (Nat.le_refl _) (fun _ h => h.elim)
  have kT := (hbY.block _ KT.out.lt).trans KT.out
  have kU := (hbY.block _ KU.out.lt).trans KU.out
  have kV := (hbY.block _ KV.out.lt).trans KV.out
  have kZ := (hbY.block _ KZ.out.lt).trans KZ.out
  have hT := HT.out.trans (hbY.mono HT.out.size)
  have hRT := HRT.out.below hbY
  clear s0 s1 s2 s3 s4 r0 r1 r2 r3 r4 g0 g1 g2 g3 g4 x0 x1 x2 x3 KT KU KV KZ HT HRT
  have KT := hide (show Blk (wZ.drewN nq) (w.heap.size + 1 + 1) 31 _ from kT)
  have KU := hide (show Blk (wZ.drewN nq) (w.heap.size + 1) 33 _ from kU)
  have KV := hide (show Blk (wZ.drewN nq) w.heap.size 31 _ from kV)
  have KZ := hide (show Blk (wZ.drewN nq) bz 93 _ from kZ)
  have HT := hide hT
  have HRT := hide hRT
  clear kT kU kV kZ hT hRT
  clear hbY
  generalize wZ.drewN nq = wY at KT KU KV KZ HT HRT ⊢
  obtain ⟨s0, s1, s2, s3, s4, -⟩ := KV.out.five
  obtain ⟨r0, r1, r2, r3, r4, g0, g1, g2, g3, g4⟩ := KT.out.five
  obtain ⟨x0, x1, x2, x3, -⟩ := KZ.out.four
  go_upto_region 9 with (go_at_call 86; refine (failed_any _ _ _ _ _ _ _).mono ?_; rintro e w' ⟨rfl, rfl⟩)
  have hbV : Below wY.heap.size wY (wY.alloc (.cells #[.slice es[k].a D.zs[k].L.length es[k].c, .int .i64 (D.zs[k].safe : Int), .int .i64 D.zs[k].state, .bool D.zs[k].fin] 93)) := (Below.refl _ wY).alloc (Nat.le_refl _) _
  have kT := (hbV.block _ KT.out.lt).trans KT.out
  have kU := (hbV.block _ KU.out.lt).trans KU.out
  have kV := (hbV.block _ KV.out.lt).trans KV.out
  have kZ := (hbV.block _ KZ.out.lt).trans KZ.out
  have hT := HT.out.trans (hbV.mono HT.out.size)
  have hRT := HRT.out.below hbV
  clear s0 s1 s2 s3 s4 r0 r1 r2 r3 r4 g0 g1 g2 g3 g4 x0 x1 x2 x3 KT KU KV KZ HT HRT
  have KT := hide (show Blk (wY.alloc (.cells #[.slice es[k].a D.zs[k].L.length es[k].c, .int .i64 (D.zs[k].safe : Int), .int .i64 D.zs[k].state, .bool D.zs[k].fin] 93)) (w.heap.size + 1 + 1) 31 _ from kT)
  have KU := hide (show Blk (wY.alloc (.cells #[.slice es[k].a D.zs[k].L.length es[k].c, .int .i64 (D.zs[k].safe : Int), .int .i64 D.zs[k].state, .bool D.zs[k].fin] 93)) (w.heap.size + 1) 33 _ from kU)
  have KV := hide (show Blk (wY.alloc (.cells #[.slice es[k].a D.zs[k].L.length es[k].c, .int .i64 (D.zs[k].safe : Int), .int .i64 D.zs[k].state, .bool D.zs[k].fin] 93)) w.heap.size 31 _ from kV)
  have KZ := hide (show Blk (wY.alloc (.cells #[.slice es[k].a D.zs[k].L.length es[k].c, .int .i64 (D.zs[k].safe : Int), .int .i64 D.zs[k].state, .bool D.zs[k].fin] 93)) bz 93 _ from kZ)
  have HT := hide hT
  have HRT := hide hRT
  clear kT kU kV kZ hT hRT
  clear hbV
  generalize (wY.alloc (.cells #[.slice es[k].a D.zs[k].L.length es[k].c, .int .i64 (D.zs[k].safe : Int), .int .i64 D.zs[k].state, .bool D.zs[k].fin] 93)) = wV at KT KU KV KZ HT HRT ⊢
  obtain ⟨s0, s1, s2, s3, s4, -⟩ := KV.out.five
  obtain ⟨r0, r1, r2, r3, r4, g0, g1, g2, g3, g4⟩ := KT.out.five
  obtain ⟨x0, x1, x2, x3, -⟩ := KZ.out.four
  go_upto_region 11 with (fail)
  obtain ⟨i0, hi, hz0, hz1, hz2⟩ := info_parts infoA
  have hrow : wV.ownsRow 0 33 64 (.slice es[k].a D.zs[k].L.length es[k].c) D.zs[k].L.length (D.zs[k].L.flatMap Sec.cs) := by rw [← Hez.out]; exact HRT.out.row _ (List.getElem_mem hk')
  have Hrow := hide hrow
  have hone := hide (flat_one D.zs[k].L)
  have hLk := HLen.out _ (List.getElem_mem hk)
  clear hrow
  go_upto_region 13 with (at_builtin; refine wpList_append_src _ rfl (.tmp 48) (.tmp 50) 91 rfl wV.heap.size 33 i0 _ 64 64 Try.underlying91 hi hz0 hz1 hz2 rfl (by decide) (.slice none 0 0) 0 [] rfl (World.ownsRow_nil _ _ _ _) es[k].a D.zs[k].L.length es[k].c (D.zs[k].L.flatMap Sec.cs) rfl Hrow.out hone.out (by unfold maxLen; omega) (by omega) (Nat.le_refl _) ?_; intro v1 w1 hown1 hgrow1 hat1; simp only [Nat.zero_add, List.nil_append] at hown1 hat1; obtain ⟨A1, c1, rfl⟩ := own_form hown1)
  have hbzV : bz < wV.heap.size := KZ.out.lt
  have hb1 : Below wV.heap.size wV w1 := (Below.refl _ wV).grown hgrow1 (Nat.le_refl _) (fun k hk => by simp [Value.ownBlock] at hk)
  have kT := (hb1.block _ KT.out.lt).trans KT.out
  have kU := (hb1.block _ KU.out.lt).trans KU.out
  have kV := (hb1.block _ KV.out.lt).trans KV.out
  have kZ := (hb1.block _ KZ.out.lt).trans KZ.out
  have hT := HT.out.trans (hb1.mono HT.out.size)
  have hRT := HRT.out.below hb1
  clear s0 s1 s2 s3 s4 r0 r1 r2 r3 r4 g0 g1 g2 g3 g4 x0 x1 x2 x3 KT KU KV KZ HT HRT
  have KT := hide (show Blk w1 (w.heap.size + 1 + 1) 31 _ from kT)
  have KU := hide (show Blk w1 (w.heap.size + 1) 33 _ from kU)
  have KV := hide (show Blk w1 w.heap.size 31 _ from kV)
  have KZ := hide (show Blk w1 bz 93 _ from kZ)
  have HT := hide hT
  have HRT := hide hRT
  clear kT kU kV kZ hT hRT
  have Hb1 := hide hb1
  have Hown1 := hide hown1
  clear hb1 hgrow1 hat1
  have hne1 : ∀ b, b < wV.heap.size → some b ≠ (Value.slice A1 D.zs[k].L.length c1).ownBlock := fun b hb e => by have := (Hown1.out.lt _ e.symm).1; omega
  have Hne1 := hide hne1
  have hbV : bz < wV.heap.size := hbzV
  have HKV := hide (show w.heap.size + 1 + 1 < bz from Hzs.out)
  clear hne1
  go_upto_region 14 with (first | ((with_reducible refine wpList_load_mid ?qg 33 (.tmp 5) ?qo (w.heap.size + 1) 0 ?qx s.cs ?qd ?qr ?qu ?qf ?qi ?_); (case qg => exact rfl); (case qo => exact rfl); (case qx => exact rfl); (case qr => exact ZD.range_blk s KU.out); (case qu => exact Try.underlying33); (case qf => exact rfl); (case qi => exact sizeAx s)) | ((with_reducible refine wpList_build1 ?pg s (.tmp 53) ?po ?px ?_); (case pg => exact rfl); (case po => exact rfl); (case px => exact rfl)) | (at_builtin; refine wpList_append_own_at _ rfl (.tmp 52) (.tmp 54) 91 rfl 0 33 i0 _ 64 64 Try.underlying91 hi hz0 hz1 hz2 rfl (by decide) (.slice A1 D.zs[k].L.length c1) _ _ ?_ (own_base (Hown1.out.alloc _)) ⟨w1.heap.size, 0, none⟩ 1 1 s.cs ?_ (by rw [Sec.len]) (cells_new _ _ _) s.one (by unfold maxLen; omega) (by omega) (by simp) ?_; exact rfl; exact rfl; intro v2 w2 hown2 hgrow2 hnil2 hat2; obtain ⟨A2, c2, rfl⟩ := own_form hown2; have KZ2 := hide ((KZ.out.alloc (.cells s.cs.toArray 33)).grown hgrow2 (Hne1.out _ hbV)); have Hgrow2 := hide hgrow2; have Hown2 := hide hown2; have Hat2 := hide hat2; clear hgrow2 hown2 hat2 hnil2; obtain ⟨x0, x1, x2, x3, f0, f1, f2, f3⟩ := KZ2.out.four))
  have KT2 := hide ((KT.out.alloc (.cells s.cs.toArray 33)).grown Hgrow2.out (Hne1.out _ (by have := HKV.out; omega)))
  have KV2 := hide ((KV.out.alloc (.cells s.cs.toArray 33)).grown Hgrow2.out (Hne1.out _ (by have := HKV.out; omega)))
  have hb2 : Below w.heap.size w w2 := (HT.out.alloc HT.out.size (.cells s.cs.toArray 33)).grown Hgrow2.out (by have := HT.out.size; simp; omega) (fun b e => by have := (Hown1.out.lt _ e).1; have := HKV.out; omega)
  have hge2 : ∀ b, (Value.slice A2 (D.zs[k].L.length + 1) c2).ownBlock = some b → wV.heap.size ≤ b := fun b e => by
    have := Hb1.out.size
    rcases Hat2.out with h | h
    · rw [h] at e; exact (Hown1.out.lt _ e).1
    · rw [h] at e; simp at e; omega
  have HB2 := hide hb2
  have Hge2 := hide hge2
  clear Hgrow2 Hat2 hb2 hge2
  obtain ⟨s0, s1, s2, s3, s4, -⟩ := KV2.out.five
  go_upto_region 17 with (fail)
  have kt3 : Blk ((w2.setCell ⟨bz, 0, none⟩ (.slice A2 (D.zs[k].L.length + 1) c2)).setCell ⟨bz, 2, none⟩ (.int .i64 1)) (w.heap.size + 1 + 1) 31 _ := (KT2.out.far (p := ⟨bz, 0, none⟩) (by simp; have := HKV.out; omega) _).far (p := ⟨bz, 2, none⟩) (by simp; have := HKV.out; omega) _
  have kv3 : Blk ((w2.setCell ⟨bz, 0, none⟩ (.slice A2 (D.zs[k].L.length + 1) c2)).setCell ⟨bz, 2, none⟩ (.int .i64 1)) w.heap.size 31 _ := (KV2.out.far (p := ⟨bz, 0, none⟩) (by simp; have := HKV.out; omega) _).far (p := ⟨bz, 2, none⟩) (by simp; have := HKV.out; omega) _
  have kz3 : Blk ((w2.setCell ⟨bz, 0, none⟩ (.slice A2 (D.zs[k].L.length + 1) c2)).setCell ⟨bz, 2, none⟩ (.int .i64 1)) bz 93 #[(.slice A2 (D.zs[k].L.length + 1) c2), .int .i64 (D.zs[k].safe : Int), .int .i64 1, .bool D.zs[k].fin] := by simpa using (KZ2.out.set_ 0 (.slice A2 (D.zs[k].L.length + 1) c2)).set_ 2 (.int .i64 1)
  have hm3 : Mods (fun b => b = bz) w2 ((w2.setCell ⟨bz, 0, none⟩ (.slice A2 (D.zs[k].L.length + 1) c2)).setCell ⟨bz, 2, none⟩ (.int .i64 1)) := ((Mods.refl (fun b => b = bz) w2).setCell (p := ⟨bz, 0, none⟩) (.inl rfl) _).setCell (p := ⟨bz, 2, none⟩) (.inl rfl) _
  have hb3 := HB2.out.trans (hm3.below (B := w.heap.size) HB2.out.size (fun b e => by have := HKV.out; omega))
  have hown3 := own_mods Hown2.out hm3 (fun b e => by have := Hge2.out b e; omega)
  have KT3 := hide kt3
  have KV3 := hide kv3
  have KZ3 := hide kz3
  have HB3 := hide hb3
  have Hown3 := hide hown3
  clear kt3 kv3 kz3 hm3 hb3 hown3 KT2 KV2 KZ2 HB2 Hown2 s0 s1 s2 s3 s4 x0 x1 x2 x3 f0 f1 f2 f3
  generalize ((w2.setCell ⟨bz, 0, none⟩ (.slice A2 (D.zs[k].L.length + 1) c2)).setCell ⟨bz, 2, none⟩ (.int .i64 1)) = wX at KT3 KV3 KZ3 HB3 Hown3 ⊢
  have hll : (D.zs[k].L ++ [s]).length = D.zs[k].L.length + 1 := by simp
  have hD : Below w.heap.size w wX.drew := HB3.out.drew
  have href := ((h'.out.tight.below hD).mono (G' := fun i => (G i ∧ i < w.heap.size) ∨ (w.heap.size ≤ i ∧ i ≠ w.heap.size + 1 + 1)) (fun i hi => .inl hi)).tick
  have hput := put_any (D := D.tick) href Hl.out k hk ⟨{ D.zs[k] with L := D.zs[k].L ++ [s], state := 1 }, A2, c2⟩ (by dsimp only; rw [hll, flat_snoc]; exact Hown3.out) (by intro i hi; dsimp only at hi; rw [hll] at hi; have h1 := Hge2.out i hi; have h2 := HKV.out; have h3 := hbV; right; omega)
  dsimp only at hput
  rw [hll] at hput
  have Hput : Hid (Calls Try.prog 87 #[.agg #[.slice (some ⟨g, 0, none⟩) D.zs.length c, .int .i64 D.size, .int .i64 D.op, .int .i64 (D.tick.n : Int), .bool D.down], .int .i64 (k : Int), .agg #[(.slice A2 (D.zs[k].L.length + 1) c2), .int .i64 (D.zs[k].safe : Int), .int .i64 1, .bool D.zs[k].fin]] wX.drew (Put wX.drew (fun i => (G i ∧ i < w.heap.size) ∨ (w.heap.size ≤ i ∧ i ≠ w.heap.size + 1 + 1)) (D.tick.put k { D.zs[k] with L := D.zs[k].L ++ [s], state := 1 }))) := hide hput
  clear hput href hll hD
  have ew : IntKind.i64.wrap (((D.zs[k].L.length + 1 : Nat) : Int) - 1) = (D.zs[k].L.length : Int) := by rw [show ((D.zs[k].L.length + 1 : Nat) : Int) - 1 = (D.zs[k].L.length : Int) by omega]; exact IntWalk.i64_in _ (by omega)
  have ew2 : IntKind.i64.wrap ((D.zs[k].L.length : Int) + 1 - 1) = (D.zs[k].L.length : Int) := by rw [show (D.zs[k].L.length : Int) + 1 - 1 = (D.zs[k].L.length : Int) by omega]; exact IntWalk.i64_in _ (by omega)
  have ew3 : IntKind.i64.wrap (D.zs[k].L.length : Int) = (D.zs[k].L.length : Int) := IntWalk.i64_in _ (by omega)
  obtain ⟨s0, s1, s2, s3, s4, -⟩ := Blk.five (show Blk wX.drew w.heap.size 31 _ from KV3.out)
  obtain ⟨x0, x1, x2, x3, -⟩ := Blk.four (show Blk wX.drew bz 93 _ from KZ3.out)
  have hnb : ¬ bz = w.heap.size + 1 + 1 := by have := HKV.out; omega
  have hnb2 : ¬ w.heap.size + 1 + 1 = bz := fun e => hnb e.symm
  clear hbV hLk hlc
  go_region_held3 (fun w' => w'.cell? ⟨w.heap.size, 0, none⟩ = some (.slice (some ⟨g, 0, none⟩) D.zs.length c) ∧ w'.cell? ⟨w.heap.size, 1, none⟩ = some (.int .i64 D.size) ∧ w'.cell? ⟨w.heap.size, 2, none⟩ = some (.int .i64 D.op) ∧ w'.cell? ⟨w.heap.size, 3, none⟩ = some (.int .i64 (D.tick.n : Int)) ∧ w'.cell? ⟨w.heap.size, 4, none⟩ = some (.bool D.down) ∧ w'.cell? ⟨bz, 0, none⟩ = some (.slice A2 (D.zs[k].L.length + 1) c2) ∧ w'.cell? ⟨bz, 1, none⟩ = some (.int .i64 (D.zs[k].safe : Int)) ∧ w'.cell? ⟨bz, 2, none⟩ = some (.int .i64 1) ∧ w'.cell? ⟨bz, 3, none⟩ = some (.bool D.zs[k].fin)) (first | with_reducible exact ⟨s0, s1, s2, s3, s4, x0, x1, x2, x3⟩ | with_reducible exact ⟨q0, q1, q2, q3, q4, q5, q6, q7, q8⟩ | ((with_reducible refine ⟨set5_cell ?_ q0, set5_cell ?_ q1, set5_cell ?_ q2, set5_cell ?_ q3, set5_cell ?_ q4, set5_cell ?_ q5, set5_cell ?_ q6, set5_cell ?_ q7, set5_cell ?_ q8⟩) <;> (dsimp only; omega)) | go_keep)
    (first | (go_at_call 87; (with_reducible refine Hput.out.mono ?_); rintro e w6 ⟨A', c', es', rfl, href, hb6⟩; have Href := hide href; have Hb6 := hide hb6; obtain ⟨q0, q1, q2, q3, q4, -⟩ := Blk.five ((hb6.block _ (show w.heap.size < wX.heap.size from KV3.out.lt)).trans KV3.out); obtain ⟨q5, q6, q7, q8, -⟩ := Blk.four ((hb6.block _ (show bz < wX.heap.size from KZ3.out.lt)).trans KZ3.out); have KT6 := hide (show Blk w6 (w.heap.size + 1 + 1) 31 _ from (hb6.block _ (show w.heap.size + 1 + 1 < wX.heap.size from KT3.out.lt)).trans KT3.out); obtain ⟨r0, r1, r2, r3, r4, g0, g1, g2, g3, g4⟩ := KT6.out.five))
  go_wp2_with fail
  refine bodyPost_ret (v := .tuple #[.agg #[.slice A' (D.tick.put k { D.zs[k] with L := D.zs[k].L ++ [s], state := 1 }).zs.length c', .int .i64 (D.tick.put k { D.zs[k] with L := D.zs[k].L ++ [s], state := 1 }).size, .int .i64 (D.tick.put k { D.zs[k] with L := D.zs[k].L ++ [s], state := 1 }).op, .int .i64 ((D.tick.put k { D.zs[k] with L := D.zs[k].L ++ [s], state := 1 }).n : Int), .bool (D.tick.put k { D.zs[k] with L := D.zs[k].L ++ [s], state := 1 }).down], .int .i64 (D.zs[k].L.length : Int), .int .i64 0]) ?_ rfl ?_
  · exact results_dev3 (fn := Try.f48) (p := 6) (u := 7) (x := 8) (g := w.heap.size + 1 + 1) rfl _ _ _ _ _ _ _ _ rfl rfl rfl (Blk.set5 KT6.out _ _ _ _ _)
  · rw [hfin.out]
    obtain ⟨q1, q2⟩ := storedX (G := G) (v0 := .slice A' (D.tick.put k { D.zs[k] with L := D.zs[k].L ++ [s], state := 1 }).zs.length c') (v1 := .int .i64 (D.tick.put k { D.zs[k] with L := D.zs[k].L ++ [s], state := 1 }).size) (v2 := .int .i64 (D.tick.put k { D.zs[k] with L := D.zs[k].L ++ [s], state := 1 }).op) (v3 := .int .i64 ((D.tick.put k { D.zs[k] with L := D.zs[k].L ++ [s], state := 1 }).n : Int)) (v4 := .bool (D.tick.put k { D.zs[k] with L := D.zs[k].L ++ [s], state := 1 }).down) (HB3.out.drew.trans (Hb6.out.mono HB3.out.size)) Href.out (r := w.heap.size + 1 + 1) (by omega) (fun i hi => by
      have h1 := HB3.out.size
      have h2 : w.heap.size + 1 + 1 < wX.heap.size := KT3.out.lt
      have h3 : wX.drew.heap.size = wX.heap.size := rfl
      rcases hi with (hi | hi) | hi
      · exact ⟨.inl hi.1, by omega⟩
      · exact ⟨.inr hi.1, hi.2⟩
      · exact ⟨.inr (by omega), by omega⟩)
    exact ⟨A', c', es', rfl, q1, q2⟩
theorem append_any (h : RefIs w D A c es G) (hn : D.n < 65536) (hl : D.zs.length < 65536) (hL : ∀ x ∈ D.zs, x.L.length < 65536) (hS : ∀ x ∈ D.zs, x.size = D.size) (i : Int) (s : Sec) : Calls Try.prog 48 #[.agg #[.slice A D.zs.length c, .int .i64 D.size, .int .i64 D.op, .int .i64 (D.n : Int), .bool D.down], .int .i64 i, s.agg] w (Gave3 w G (D.append i s).1 (D.append i s).2.1 (D.append i s).2.2) := by
  by_cases h0 : (D.begin_ i).2 = 0
  · obtain ⟨hd, k, rfl, hk⟩ := Dv.begin_zero h0
    have hsz := hS _ (List.getElem_mem hk)
    by_cases hf : failedOf D.zs[k].state = 0
    · by_cases h2 : D.zs[k].state = 2
      · exact append_full h hn hl hL k s hd hk hf h2
      · by_cases hz : D.zs[k].state = 0
        · by_cases ho : D.op ≤ (D.opened : Int)
          · exact append_open h hn hl hL k s hd hk hz ho
          · by_cases hs : ((D.zs[k].L.length + 1 : Nat) : Int) = D.zs[k].size
            · exact append_new_last h hn hl hL k s hd hk hz ho hf h2 hs hsz
            · exact append_new_more h hn hl hL k s hd hk hz ho hf h2 hs hsz
        · by_cases hs : ((D.zs[k].L.length + 1 : Nat) : Int) = D.zs[k].size
          · exact append_old_last h hn hl hL k s hd hk hz hf h2 hs hsz
          · exact append_old_more h hn hl hL k s hd hk hz hf h2 hs hsz
    · exact append_failed h hn hl hL k s hd hk hf
  · exact append_no h hn hl hL i s h0
end
end Go.Proofs.Ytdinbhanekpjoaa.R7
