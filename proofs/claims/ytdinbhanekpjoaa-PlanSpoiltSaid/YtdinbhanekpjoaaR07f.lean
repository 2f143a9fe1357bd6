/-
  The document's device: Finish.
-/
import Derived.Test.YtdinbhanekpjoaaR07e
namespace Go.Proofs.Ytdinbhanekpjoaa.R7
open Go.RowKit
theorem _root_.Go.Proofs.Ytdinbhanekpjoaa.Blk.set4 {w : World} {g : Nat} {t : TypeId} {u0 u1 u2 u3 : Value} (h : Blk w g t #[u0, u1, u2, u3]) (v0 v1 v2 v3 : Value) :
    Blk ((((w.setCell ⟨g, 0, none⟩ v0).setCell ⟨g, 1, none⟩ v1).setCell ⟨g, 2, none⟩ v2).setCell ⟨g, 3, none⟩ v3) g t #[v0, v1, v2, v3] := by
  have := (((h.set_ 0 v0).set_ 1 v1).set_ 2 v2).set_ 3 v3
  simpa using this
theorem _root_.Go.Proofs.Ytdinbhanekpjoaa.Blk.four {w : World} {g : Nat} {t : TypeId} {v0 v1 v2 v3 : Value} (h : Blk w g t #[v0, v1, v2, v3]) :
    w.cell? ⟨g, 0, none⟩ = some v0 ∧ w.cell? ⟨g, 1, none⟩ = some v1 ∧ w.cell? ⟨g, 2, none⟩ = some v2 ∧ w.cell? ⟨g, 3, none⟩ = some v3 ∧
    w.frozen? ⟨g, 0, none⟩ = false ∧ w.frozen? ⟨g, 1, none⟩ = false ∧ w.frozen? ⟨g, 2, none⟩ = false ∧ w.frozen? ⟨g, 3, none⟩ = false :=
  ⟨h.cell 0, h.cell 1, h.cell 2, h.cell 3, h.frozen 0, h.frozen 1, h.frozen 2, h.frozen 3⟩
section
variable {w : World} {D : Dv} {A : Option Addr} {c : Nat} {es : List RZ} {G : Nat → Prop}
set_option maxRecDepth 100000 in
set_option maxHeartbeats 1000000 in
theorem finish_failed (h : RefIs w D A c es G) (hn : D.n < 65536) (hl : D.zs.length < 65536) (k : Nat) (hd : ¬ D.down = true) (hk : k < D.zs.length) (hf : ¬ failedOf D.zs[k].state = 0) : Calls Try.prog 51 #[.agg #[.slice A D.zs.length c, .int .i64 D.size, .int .i64 D.op, .int .i64 (D.n : Int), .bool D.down], .int .i64 (k : Int)] w (Gave w G (D.finish (k : Int)).1 (D.finish (k : Int)).2) := by
  have hfin : Hid (D.finish (k : Int) = (D.tick.put k (Zn.finish D.zs[k]).1, (Zn.finish D.zs[k]).2)) := hide (Dv.answer_in Zn.finish hd hk)
  have Hbe := hide (Dv.begin_in k hd hk)
  have Hzf := hide (Zn.finish_failed (z := D.zs[k]) hf)
  have ef : (failedOf D.zs[k].state != 0) = true := by simpa using hf
  clear hd hf
  have hB : Below w.heap.size w ((w.alloc (.cells #[.slice A D.zs.length c, .int .i64 D.size, .int .i64 D.op, .int .i64 (D.n : Int), .bool D.down] 31)).alloc (.cells #[.slice none 0 0, .int .i64 0, .int .i64 0, .int .i64 0, .bool false] 31)) := ((Below.refl _ w).alloc (Nat.le_refl _) _).alloc (by simp) _
  have k0 := (Blk.new w 31 #[.slice A D.zs.length c, .int .i64 D.size, .int .i64 D.op, .int .i64 (D.n : Int), .bool D.down]).alloc (.cells #[.slice none 0 0, .int .i64 0, .int .i64 0, .int .i64 0, .bool false] 31)
  have k1 := Blk.new (w.alloc (.cells #[.slice A D.zs.length c, .int .i64 D.size, .int .i64 D.op, .int .i64 (D.n : Int), .bool D.down] 31)) 31 #[.slice none 0 0, .int .i64 0, .int .i64 0, .int .i64 0, .bool false]
  rw [World.size_alloc] at k1
  have h' := hide h
  have Hl := hide hl
  clear h hl
  go_enter Try.func51, Try.ntmps51
  go_wp2_with fail
  obtain ⟨W2, hW⟩ : ∃ W2, W2 = (w.alloc (.cells #[.slice A D.zs.length c, .int .i64 D.size, .int .i64 D.op, .int .i64 (D.n : Int), .bool D.down] 31)).alloc (.cells #[.slice none 0 0, .int .i64 0, .int .i64 0, .int .i64 0, .bool false] 31) := ⟨_, rfl⟩
  rw [← hW] at hB k0 k1 ⊢
  clear hW
  have HB := hide hB
  have K0 := hide k0
  have K1 := hide k1
  have Hbg := begin_any D A c (k : Int) W2 hn
  rw [Hbe.out] at Hbg
  have Hbg := hide Hbg
  clear hB k0 k1
  refine Hbg.out.mono ?_
  rintro e w1 ⟨rfl, hb1⟩
  have k01 : Blk w1 w.heap.size 31 _ := (hb1.block _ K0.out.lt).trans K0.out
  obtain ⟨y0, y1, y2, y3, y4, fy0, fy1, fy2, fy3, fy4⟩ := k01.five
  have Haft := hide (after5 (.slice A D.zs.length c) (.int .i64 D.size) (.int .i64 D.op) (.int .i64 ((D.tick.n : Nat) : Int)) (.bool D.down) HB.out (Nat.le_refl _) K0.out h'.out hb1)
  clear hb1 k01
  go_upto_region 2 with (fail)
  obtain ⟨KS, hbs, hrs, Hoth⟩ := Haft.out
  have KS1 := hide (Hoth (w.heap.size + 1) _ _ (by omega) K1.out)
  have KS0 := hide KS
  have HBS := hide hbs
  have HRS := hide hrs
  clear KS hbs hrs Hoth Haft y0 y1 y2 y3 y4 fy0 fy1 fy2 fy3 fy4
  generalize ((((w1.setCell _ _).setCell _ _).setCell _ _).setCell _ _).setCell _ _ = wS at KS0 KS1 HBS HRS ⊢
  obtain ⟨s0, s1, s2, s3, s4, -⟩ := KS0.out.five
  obtain ⟨r0, r1, r2, r3, r4, g0, g1, g2, g3, g4⟩ := KS1.out.five
  obtain ⟨g, rfl, hlc, hgl, hk', hez, x0, x1, x2, x3⟩ := HRS.out.at_ hk
  clear hez
  go_upto_region 5 with (fail)
  have hbl0 : w.heap.size < wS.heap.size := KS0.out.lt
  have kz := Blk.new wS 93 #[.slice es[k].a D.zs[k].L.length es[k].c, .int .i64 (D.zs[k].safe : Int), .int .i64 D.zs[k].state, .bool D.zs[k].fin]
  have hbz : Below wS.heap.size wS (wS.alloc (.cells #[.slice es[k].a D.zs[k].L.length es[k].c, .int .i64 (D.zs[k].safe : Int), .int .i64 D.zs[k].state, .bool D.zs[k].fin] 93)) := (Below.refl _ wS).alloc (Nat.le_refl _) _
  have kV := (hbz.block _ KS0.out.lt).trans KS0.out
  have kT := (hbz.block _ KS1.out.lt).trans KS1.out
  have KT := hide (show Blk _ (w.heap.size + 1) 31 _ from kT)
  have KV := hide (show Blk _ w.heap.size 31 _ from kV)
  have KZ := hide kz
  have HBZ := hide hbz
  have HT := hide (HBS.out.trans (hbz.mono HBS.out.size))
  have HRT := hide (HRS.out.below hbz)
  clear kT kV hbz kz s0 s1 s2 s3 s4 r0 r1 r2 r3 r4 g0 g1 g2 g3 g4 x0 x1 x2 x3
  generalize wS.alloc (.cells #[.slice es[k].a D.zs[k].L.length es[k].c, .int .i64 (D.zs[k].safe : Int), .int .i64 D.zs[k].state, .bool D.zs[k].fin] 93) = wZ at KT KV KZ HT HRT HBZ ⊢
  have gZ : Hid (wS.heap.size < wZ.heap.size) := hide KZ.out.lt
  have Hzs := hide (show w.heap.size + 1 < wS.heap.size from KS1.out.lt)
  have Hg : Hid (g < wS.heap.size) := hide hgl
  clear KS0 KS1 HRS K0 K1 hgl
  obtain ⟨bz, hbzq⟩ : ∃ b, b = wS.heap.size := ⟨_, rfl⟩
  rw [← hbzq] at KZ gZ Hzs Hg ⊢
  have Hbz := hide hbzq
  clear hbzq hbl0
  have hS9 : Hid (∀ w', Below wZ.heap.size wZ w' → w'.cell? ⟨w.heap.size, 0, none⟩ = some (.slice (some ⟨g, 0, none⟩) D.zs.length c) ∧ w'.cell? ⟨w.heap.size, 1, none⟩ = some (.int .i64 D.size) ∧ w'.cell? ⟨w.heap.size, 2, none⟩ = some (.int .i64 D.op) ∧ w'.cell? ⟨w.heap.size, 3, none⟩ = some (.int .i64 (D.tick.n : Int)) ∧ w'.cell? ⟨w.heap.size, 4, none⟩ = some (.bool D.down) ∧ w'.cell? ⟨bz, 0, none⟩ = some (.slice es[k].a D.zs[k].L.length es[k].c) ∧ w'.cell? ⟨bz, 1, none⟩ = some (.int .i64 (D.zs[k].safe : Int)) ∧ w'.cell? ⟨bz, 2, none⟩ = some (.int .i64 D.zs[k].state) ∧ w'.cell? ⟨bz, 3, none⟩ = some (.bool D.zs[k].fin)) := hide (fun w' hV => by
    obtain ⟨s0, s1, s2, s3, s4, -⟩ := Blk.five ((hV.block _ KV.out.lt).trans KV.out)
    obtain ⟨x0, x1, x2, x3, -⟩ := Blk.four ((hV.block _ KZ.out.lt).trans KZ.out)
    exact ⟨s0, s1, s2, s3, s4, x0, x1, x2, x3⟩)
  obtain ⟨x0, x1, x2, x3, -⟩ := KZ.out.four
  go_wp2_with fail
  refine (failed_any _ _ _ _ _ _ _).mono ?_
  rintro e w' ⟨rfl, hW⟩
  have hb1 : Below wZ.heap.size wZ w' := by rw [← hW]; exact (Below.refl _ wZ).alloc (Nat.le_refl _) _
  have Hb1 := hide hb1
  clear hW x0 x1 x2 x3
  have HQ := hide (hS9.out _ hb1.drew)
  clear hb1
  go_upto_region 6 with (fail)
  refine Reg.wp_region_reads (fun w' => w'.cell? ⟨w.heap.size, 0, none⟩ = some (.slice (some ⟨g, 0, none⟩) D.zs.length c) ∧ w'.cell? ⟨w.heap.size, 1, none⟩ = some (.int .i64 D.size) ∧ w'.cell? ⟨w.heap.size, 2, none⟩ = some (.int .i64 D.op) ∧ w'.cell? ⟨w.heap.size, 3, none⟩ = some (.int .i64 (D.tick.n : Int)) ∧ w'.cell? ⟨w.heap.size, 4, none⟩ = some (.bool D.down) ∧ w'.cell? ⟨bz, 0, none⟩ = some (.slice es[k].a D.zs[k].L.length es[k].c) ∧ w'.cell? ⟨bz, 1, none⟩ = some (.int .i64 (D.zs[k].safe : Int)) ∧ w'.cell? ⟨bz, 2, none⟩ = some (.int .i64 D.zs[k].state) ∧ w'.cell? ⟨bz, 3, none⟩ = some (.bool D.zs[k].fin)) 2 3 (by decide +kernel) (by decide +kernel) HQ.out ?_
  simp only [List.take_succ_cons, List.take_zero, List.drop_succ_cons, List.drop_zero]
  iterate 2
    apply Reg.wpReads_step rfl
    · intro w' hS
      obtain ⟨q0, q1, q2, q3, q4, q5, q6, q7, q8⟩ := hS
      go_simp
      first | done | rfl
    intro K hK
    go_simp
    refine hK _ ?_
    clear hK K
  refine Reg.wpReads_nil ?_
  refine Reg.wpTail_step rfl (fun K hK => ?_)
  go_simp
  refine (failed_any _ _ _ _ _ _ _).mono ?_
  rintro e w2 ⟨rfl, hW⟩
  have hb2 : Below wZ.heap.size wZ w2 := by rw [← hW]; exact Hb1.out.drew.alloc (by have := Hb1.out.size; exact this) _
  clear hW
  go_simp
  refine hK _ _ (fun _ => hS9.out _ hb2) ?_
  clear hK K
  refine Reg.wpTail_list _ _ _ _ (by omega) ?_
  have kX := (hb2.block _ KT.out.lt).trans KT.out
  have KX : Hid (Blk w2 (w.heap.size + 1) 31 _) := hide kX
  obtain ⟨q0, q1, q2, q3, q4, p0, p1, p2, p3, p4⟩ := KX.out.five
  have HX := hide (HT.out.trans (hb2.mono HT.out.size))
  have HRX := hide (HRT.out.below hb2)
  clear hb2 kX
  go_wp2_with fail
  refine NoPanic.normal ?_
  go_wp2_with fail
  refine bodyPost_ret (v := .tuple #[.agg #[.slice (some ⟨g, 0, none⟩) D.zs.length c, .int .i64 D.size, .int .i64 D.op, .int .i64 (D.tick.n : Int), .bool D.down], .int .i64 (failedOf D.zs[k].state)]) ?_ rfl ?_
  · exact results_dev2 (fn := Try.f51) (p := 4) (u := 5) (g := w.heap.size + 1) rfl _ _ _ _ _ _ _ rfl rfl (Blk.set5 KX.out _ _ _ _ _)
  · rw [hfin.out, Hzf.out]
    have e : D.tick.put k D.zs[k] = D.tick := put_same (D := D.tick) k hk
    rw [e]
    obtain ⟨t1, t2⟩ := stored5' (v0 := .slice (some ⟨g, 0, none⟩) D.zs.length c) (v1 := .int .i64 D.size) (v2 := .int .i64 D.op) (v3 := .int .i64 (D.tick.n : Int)) (v4 := .bool D.down) HX.out HRX.out (r := w.heap.size + 1) (by omega)
    exact ⟨some ⟨g, 0, none⟩, c, es, rfl, t1.tick, t2⟩

set_option maxRecDepth 100000 in
set_option maxHeartbeats 1000000 in
theorem finish_ok (h : RefIs w D A c es G) (hn : D.n < 65536) (hl : D.zs.length < 65536) (k : Nat) (hd : ¬ D.down = true) (hk : k < D.zs.length) (hf : failedOf D.zs[k].state = 0) : Calls Try.prog 51 #[.agg #[.slice A D.zs.length c, .int .i64 D.size, .int .i64 D.op, .int .i64 (D.n : Int), .bool D.down], .int .i64 (k : Int)] w (Gave w G (D.finish (k : Int)).1 (D.finish (k : Int)).2) := by
  have hfin : Hid (D.finish (k : Int) = (D.tick.put k (Zn.finish D.zs[k]).1, (Zn.finish D.zs[k]).2)) := hide (Dv.answer_in Zn.finish hd hk)
  have Hbe := hide (Dv.begin_in k hd hk)
  have Hzf := hide (Zn.finish_ok (z := D.zs[k]) hf)
  have ef : (failedOf D.zs[k].state != 0) = false := by simp [hf]
  clear hd hf
  have hB : Below w.heap.size w ((w.alloc (.cells #[.slice A D.zs.length c, .int .i64 D.size, .int .i64 D.op, .int .i64 (D.n : Int), .bool D.down] 31)).alloc (.cells #[.slice none 0 0, .int .i64 0, .int .i64 0, .int .i64 0, .bool false] 31)) := ((Below.refl _ w).alloc (Nat.le_refl _) _).alloc (by simp) _
  have k0 := (Blk.new w 31 #[.slice A D.zs.length c, .int .i64 D.size, .int .i64 D.op, .int .i64 (D.n : Int), .bool D.down]).alloc (.cells #[.slice none 0 0, .int .i64 0, .int .i64 0, .int .i64 0, .bool false] 31)
  have k1 := Blk.new (w.alloc (.cells #[.slice A D.zs.length c, .int .i64 D.size, .int .i64 D.op, .int .i64 (D.n : Int), .bool D.down] 31)) 31 #[.slice none 0 0, .int .i64 0, .int .i64 0, .int .i64 0, .bool false]
  rw [World.size_alloc] at k1
  have h' := hide h
  have Hl := hide hl
  clear h hl
  go_enter Try.func51, Try.ntmps51
  go_wp2_with fail
  obtain ⟨W2, hW⟩ : ∃ W2, W2 = (w.alloc (.cells #[.slice A D.zs.length c, .int .i64 D.size, .int .i64 D.op, .int .i64 (D.n : Int), .bool D.down] 31)).alloc (.cells #[.slice none 0 0, .int .i64 0, .int .i64 0, .int .i64 0, .bool false] 31) := ⟨_, rfl⟩
  rw [← hW] at hB k0 k1 ⊢
  clear hW
  have HB := hide hB
  have K0 := hide k0
  have K1 := hide k1
  have Hbg := begin_any D A c (k : Int) W2 hn
  rw [Hbe.out] at Hbg
  have Hbg := hide Hbg
  clear hB k0 k1
  refine Hbg.out.mono ?_
  rintro e w1 ⟨rfl, hb1⟩
  have k01 : Blk w1 w.heap.size 31 _ := (hb1.block _ K0.out.lt).trans K0.out
  obtain ⟨y0, y1, y2, y3, y4, fy0, fy1, fy2, fy3, fy4⟩ := k01.five
  have Haft := hide (after5 (.slice A D.zs.length c) (.int .i64 D.size) (.int .i64 D.op) (.int .i64 ((D.tick.n : Nat) : Int)) (.bool D.down) HB.out (Nat.le_refl _) K0.out h'.out hb1)
  clear hb1 k01
  go_upto_region 2 with (fail)
  obtain ⟨KS, hbs, hrs, Hoth⟩ := Haft.out
  have KS1 := hide (Hoth (w.heap.size + 1) _ _ (by omega) K1.out)
  have KS0 := hide KS
  have HBS := hide hbs
  have HRS := hide hrs
  clear KS hbs hrs Hoth Haft y0 y1 y2 y3 y4 fy0 fy1 fy2 fy3 fy4
  generalize ((((w1.setCell _ _).setCell _ _).setCell _ _).setCell _ _).setCell _ _ = wS at KS0 KS1 HBS HRS ⊢
  obtain ⟨s0, s1, s2, s3, s4, -⟩ := KS0.out.five
  obtain ⟨r0, r1, r2, r3, r4, g0, g1, g2, g3, g4⟩ := KS1.out.five
  obtain ⟨g, rfl, hlc, hgl, hk', hez, x0, x1, x2, x3⟩ := HRS.out.at_ hk
  have Hez := hide hez
  have HRS' := hide HRS.out
  clear hez
  go_upto_region 5 with (fail)
  have hbl0 : w.heap.size < wS.heap.size := KS0.out.lt
  have kz := Blk.new wS 93 #[.slice es[k].a D.zs[k].L.length es[k].c, .int .i64 (D.zs[k].safe : Int), .int .i64 D.zs[k].state, .bool D.zs[k].fin]
  have hbz : Below wS.heap.size wS (wS.alloc (.cells #[.slice es[k].a D.zs[k].L.length es[k].c, .int .i64 (D.zs[k].safe : Int), .int .i64 D.zs[k].state, .bool D.zs[k].fin] 93)) := (Below.refl _ wS).alloc (Nat.le_refl _) _
  have kV := (hbz.block _ KS0.out.lt).trans KS0.out
  have kT := (hbz.block _ KS1.out.lt).trans KS1.out
  have KT := hide (show Blk _ (w.heap.size + 1) 31 _ from kT)
  have KV := hide (show Blk _ w.heap.size 31 _ from kV)
  have KZ := hide kz
  have HBZ := hide hbz
  have HT := hide (HBS.out.trans (hbz.mono HBS.out.size))
  have HRT := hide (HRS.out.below hbz)
  clear kT kV hbz kz s0 s1 s2 s3 s4 r0 r1 r2 r3 r4 g0 g1 g2 g3 g4 x0 x1 x2 x3
  generalize wS.alloc (.cells #[.slice es[k].a D.zs[k].L.length es[k].c, .int .i64 (D.zs[k].safe : Int), .int .i64 D.zs[k].state, .bool D.zs[k].fin] 93) = wZ at KT KV KZ HT HRT HBZ ⊢
  have gZ : Hid (wS.heap.size < wZ.heap.size) := hide KZ.out.lt
  have Hzs := hide (show w.heap.size + 1 < wS.heap.size from KS1.out.lt)
  have Hg : Hid (g < wS.heap.size) := hide hgl
  clear KS0 KS1 HRS K0 K1 hgl
  obtain ⟨bz, hbzq⟩ : ∃ b, b = wS.heap.size := ⟨_, rfl⟩
  rw [← hbzq] at KZ gZ Hzs Hg ⊢
  have Hbz := hide hbzq
  clear hbzq hbl0
  have hrow := HRS'.out.row _ (List.getElem_mem hk')
  have hrin := HRS'.out.inG.2 _ (List.getElem_mem hk')
  rw [Hez.out] at hrow hrin
  obtain ⟨x0, x1, x2, x3, z0, z1, z2, z3⟩ := KZ.out.four
  have Hrow := hide hrow
  have Hrin := hide hrin
  clear hrow hrin
  go_wp2_with fail
  refine (failed_any _ _ _ _ _ _ _).mono ?_
  rintro e w' ⟨rfl, hW⟩
  have hb1 : Below wZ.heap.size wZ w' := by rw [← hW]; exact (Below.refl _ wZ).alloc (Nat.le_refl _) _
  clear hW x0 x1 x2 x3 z0 z1 z2 z3
  have kz' : Blk w' bz 93 _ := (hb1.block _ KZ.out.lt).trans KZ.out
  have KV' := hide (show Blk w' w.heap.size 31 _ from (hb1.block _ KV.out.lt).trans KV.out)
  have KT' := hide (show Blk w' (w.heap.size + 1) 31 _ from (hb1.block _ KT.out.lt).trans KT.out)
  obtain ⟨x0, x1, x2, x3, z0, z1, z2, z3⟩ := kz'.four
  have KZ' := hide kz'
  have Hb1 := hide hb1
  clear kz' hb1
  go_upto_region 9 with (fail)
  have K9 : Hid (Blk ((w'.setCell ⟨bz, 2, none⟩ (.int .i64 2)).setCell ⟨bz, 3, none⟩ (.bool true)) bz 93 #[.slice es[k].a D.zs[k].L.length es[k].c, .int .i64 (D.zs[k].safe : Int), .int .i64 2, .bool true]) := hide ((KZ'.out.set_ 2 (.int .i64 2)).set_ 3 (.bool true))
  have hm9 : Mods (fun _ => False) wS ((w'.setCell ⟨bz, 2, none⟩ (.int .i64 2)).setCell ⟨bz, 3, none⟩ (.bool true)) := ((Mods.of_below (HBZ.out.trans (Hb1.out.mono HBZ.out.size)) _).setCell (p := ⟨bz, 2, none⟩) (.inr (by rw [Hbz.out]; exact Nat.le_refl _)) _).setCell (p := ⟨bz, 3, none⟩) (.inr (by rw [Hbz.out]; exact Nat.le_refl _)) _
  have hb9 := hm9.below (B := wS.heap.size) (Nat.le_refl _) (fun _ h => h.elim)
  have K09 := hide (show Blk ((w'.setCell ⟨bz, 2, none⟩ (.int .i64 2)).setCell ⟨bz, 3, none⟩ (.bool true)) w.heap.size 31 _ from (KV'.out.far (p := ⟨bz, 2, none⟩) (by have := Hzs.out; simp; omega) _).far (p := ⟨bz, 3, none⟩) (by have := Hzs.out; simp; omega) _)
  have K19 := hide (show Blk ((w'.setCell ⟨bz, 2, none⟩ (.int .i64 2)).setCell ⟨bz, 3, none⟩ (.bool true)) (w.heap.size + 1) 31 _ from (KT'.out.far (p := ⟨bz, 2, none⟩) (by have := Hzs.out; simp; omega) _).far (p := ⟨bz, 3, none⟩) (by have := Hzs.out; simp; omega) _)
  have HR9 := hide (HRS'.out.below hb9)
  have HRow9 := hide (Hrow.out.mods' hb9)
  have HB9 := hide (HBS.out.trans (hb9.mono HBS.out.size))
  clear hm9 hb9 x0 x1 x2 x3 z0 z1 z2 z3 KZ' KV' KT'
  generalize (w'.setCell ⟨bz, 2, none⟩ (.int .i64 2)).setCell ⟨bz, 3, none⟩ (.bool true) = w9 at K9 K09 K19 HR9 HRow9 HB9 ⊢
  obtain ⟨s0, s1, s2, s3, s4, -⟩ := K09.out.five
  obtain ⟨x0, x1, x2, x3, -⟩ := K9.out.four
  have Hput := hide (put_any HR9.out.tick Hl.out k hk ⟨{ D.zs[k] with state := 2, fin := true }, es[k].a, es[k].c⟩ HRow9.out Hrin.out)
  go_wp2_with fail
  refine Hput.out.mono ?_
  rintro e w4 ⟨A', c', es', rfl, href, hb4⟩
  have kr4 : Blk w4 (w.heap.size + 1) 31 _ := (hb4.block _ K19.out.lt).trans K19.out
  obtain ⟨r0, r1, r2, r3, r4, g0, g1, g2, g3, g4⟩ := kr4.five
  have Kf := hide (Blk.set5 kr4 (.slice A' (D.tick.put k { D.zs[k] with state := 2, fin := true }).zs.length c') (.int .i64 D.size) (.int .i64 D.op) (.int .i64 (D.tick.n : Int)) (.bool D.down))
  have Href := hide href
  have Hb4 := hide hb4
  clear href hb4 kr4
  go_wp2_with fail
  refine bodyPost_ret (v := .tuple #[.agg #[.slice A' (D.tick.put k { D.zs[k] with state := 2, fin := true }).zs.length c', .int .i64 D.size, .int .i64 D.op, .int .i64 (D.tick.n : Int), .bool D.down], .int .i64 0]) ?_ rfl ?_
  · exact results_dev2 (fn := Try.f51) (p := 4) (u := 5) (g := w.heap.size + 1) rfl _ _ _ _ _ _ _ rfl rfl Kf.out
  · rw [hfin.out, Hzf.out]
    have hst := stored5 (v0 := .slice A' (D.tick.put k { D.zs[k] with state := 2, fin := true }).zs.length c') (v1 := .int .i64 D.size) (v2 := .int .i64 D.op) (v3 := .int .i64 (D.tick.n : Int)) (v4 := .bool D.down) HB9.out Href.out Hb4.out (r := w.heap.size + 1) (by omega) K19.out.lt
    exact ⟨A', c', es', rfl, hst.1, hst.2⟩

theorem finish_any (h : RefIs w D A c es G) (hn : D.n < 65536) (hl : D.zs.length < 65536) (i : Int) : Calls Try.prog 51 #[.agg #[.slice A D.zs.length c, .int .i64 D.size, .int .i64 D.op, .int .i64 (D.n : Int), .bool D.down], .int .i64 i] w (Gave w G (D.finish i).1 (D.finish i).2) := by
  by_cases h0 : (D.begin_ i).2 = 0
  · obtain ⟨hd, k, rfl, hk⟩ := Dv.begin_zero h0
    by_cases hf : failedOf D.zs[k].state = 0
    · exact finish_ok h hn hl k hd hk hf
    · exact finish_failed h hn hl k hd hk hf
  · exact finish_no h hn hl i h0
end
end Go.Proofs.Ytdinbhanekpjoaa.R7
