/-
  The document's device: Reset and Finish, the joins.
-/
import Derived.Test.YtdinbhanekpjoaaR07d
namespace Go.Proofs.Ytdinbhanekpjoaa.R7
open Go.RowKit
/-- A zone that is new. -/
def rzNew (s : Int) : RZ := ⟨{ L := [], size := s, safe := 0, state := 0, fin := false }, none, 0⟩
section
variable {w : World} {D : Dv} {A : Option Addr} {c : Nat} {es : List RZ} {G : Nat → Prop}
set_option maxRecDepth 100000 in
set_option maxHeartbeats 1000000 in
theorem reset_ok (h : RefIs w D A c es G) (hn : D.n < 65536) (hl : D.zs.length < 65536) (k : Nat) (hd : ¬ D.down = true) (hk : k < D.zs.length) (hf : failedOf D.zs[k].state = 0) : Calls Try.prog 50 #[.agg #[.slice A D.zs.length c, .int .i64 D.size, .int .i64 D.op, .int .i64 (D.n : Int), .bool D.down], .int .i64 (k : Int)] w (Gave w G (D.reset (k : Int)).1 (D.reset (k : Int)).2) := by
  have hfin : Hid (D.reset (k : Int) = (D.tick.put k (Zn.reset D.zs[k]).1, (Zn.reset D.zs[k]).2)) := hide (Dv.answer_in Zn.reset hd hk)
  have Hbe := hide (Dv.begin_in k hd hk)
  have Hzf : Hid (Zn.reset D.zs[k] = ((rzNew D.zs[k].size).z, 0)) := hide (Zn.reset_ok (z := D.zs[k]) hf)
  have ef : (failedOf D.zs[k].state != 0) = false := by simp [hf]
  clear hd hf
  have hB : Below w.heap.size w ((w.alloc (.cells #[.slice A D.zs.length c, .int .i64 D.size, .int .i64 D.op, .int .i64 (D.n : Int), .bool D.down] 31)).alloc (.cells #[.slice none 0 0, .int .i64 0, .int .i64 0, .int .i64 0, .bool false] 31)) := ((Below.refl _ w).alloc (Nat.le_refl _) _).alloc (by simp) _
  have k0 := (Blk.new w 31 #[.slice A D.zs.length c, .int .i64 D.size, .int .i64 D.op, .int .i64 (D.n : Int), .bool D.down]).alloc (.cells #[.slice none 0 0, .int .i64 0, .int .i64 0, .int .i64 0, .bool false] 31)
  have k1 := Blk.new (w.alloc (.cells #[.slice A D.zs.length c, .int .i64 D.size, .int .i64 D.op, .int .i64 (D.n : Int), .bool D.down] 31)) 31 #[.slice none 0 0, .int .i64 0, .int .i64 0, .int .i64 0, .bool false]
  rw [World.size_alloc] at k1
  have h' := hide h
  have Hl := hide hl
  clear h hl
  go_enter Try.func50, Try.ntmps50
  go_wp2_with fail
  obtain ⟨W2, hW⟩ : ∃ W2, W2 = (w.alloc (.cells #[.slice A D.zs.length c, .int .i64 D.size, .int .i64 D.op, .int .i64 (D.n : Int), .bool D.down] 31)).alloc (.cells #[.slice none 0 0, .int .i64 0, .int .i64 0, .int .i64 0, .bool false] 31) := ⟨_, rfl⟩
  rw [← hW] at hB k0 k1 ⊢
  clear hW
  have HB := hide hB
  have K0 := hide k0
  have K1 := hide k1
  have Hbg := begin_any D A c (k : Int) W2 hn
  rw [Hbe.out] at Hbg
  have Hbg := hide Hbg
  clear hB k0 k1
  refine Hbg.out.mono ?_
  rintro e w1 ⟨rfl, hb1⟩
  have k01 : Blk w1 w.heap.size 31 _ := (hb1.block _ K0.out.lt).trans K0.out
  obtain ⟨y0, y1, y2, y3, y4, fy0, fy1, fy2, fy3, fy4⟩ := k01.five
  have Haft := hide (after5 (.slice A D.zs.length c) (.int .i64 D.size) (.int .i64 D.op) (.int .i64 ((D.tick.n : Nat) : Int)) (.bool D.down) HB.out (Nat.le_refl _) K0.out h'.out hb1)
  clear hb1 k01
  go_upto_region 2 with (fail)
  obtain ⟨KS, hbs, hrs, Hoth⟩ := Haft.out
  have KS1 := hide (Hoth (w.heap.size + 1) _ _ (by omega) K1.out)
  have KS0 := hide KS
  have HBS := hide hbs
  have HRS := hide hrs
  clear KS hbs hrs Hoth Haft y0 y1 y2 y3 y4 fy0 fy1 fy2 fy3 fy4
  generalize ((((w1.setCell _ _).setCell _ _).setCell _ _).setCell _ _).setCell _ _ = wS at KS0 KS1 HBS HRS ⊢
  obtain ⟨s0, s1, s2, s3, s4, -⟩ := KS0.out.five
  obtain ⟨r0, r1, r2, r3, r4, g0, g1, g2, g3, g4⟩ := KS1.out.five
  obtain ⟨g, rfl, hlc, hgl, hk', hez, x0, x1, x2, x3⟩ := HRS.out.at_ hk
  clear hez
  go_wp2_with fail
  refine (failed_any _ _ _ _ _ _ _).mono ?_
  rintro e w' ⟨rfl, rfl⟩
  have hb1 : Below wS.heap.size wS (wS.alloc (.cells #[.slice es[k].a D.zs[k].L.length es[k].c, .int .i64 (D.zs[k].safe : Int), .int .i64 D.zs[k].state, .bool D.zs[k].fin] 93)) := (Below.refl _ wS).alloc (Nat.le_refl _) _
  have kT := (hb1.block _ KS1.out.lt).trans KS1.out
  have KT : Hid (Blk (wS.alloc (.cells #[.slice es[k].a D.zs[k].L.length es[k].c, .int .i64 (D.zs[k].safe : Int), .int .i64 D.zs[k].state, .bool D.zs[k].fin] 93)) (w.heap.size + 1) 31 _) := hide kT
  have kV := (hb1.block _ KS0.out.lt).trans KS0.out
  have KV : Hid (Blk (wS.alloc (.cells #[.slice es[k].a D.zs[k].L.length es[k].c, .int .i64 (D.zs[k].safe : Int), .int .i64 D.zs[k].state, .bool D.zs[k].fin] 93)) w.heap.size 31 _) := hide kV
  have HT := hide (HBS.out.trans (hb1.mono HBS.out.size))
  have HRT := hide (HRS.out.below hb1)
  clear kT kV hb1 s0 s1 s2 s3 s4 r0 r1 r2 r3 r4 g0 g1 g2 g3 g4 x0 x1 x2 x3
  generalize wS.alloc (.cells #[.slice es[k].a D.zs[k].L.length es[k].c, .int .i64 (D.zs[k].safe : Int), .int .i64 D.zs[k].state, .bool D.zs[k].fin] 93) = wT at KT KV HT HRT ⊢
  obtain ⟨s0, s1, s2, s3, s4, -⟩ := KV.out.five
  have Hput := hide (put_any HRT.out.tick Hl.out k hk (rzNew D.zs[k].size) (World.ownsRow_nil _ _ _ _) (fun g h => by simp [rzNew, Value.ownBlock] at h))
  go_wp2_with fail
  refine Hput.out.mono ?_
  rintro e w4 ⟨A', c', es', rfl, href, hb4⟩
  have kr4 : Blk w4 (w.heap.size + 1) 31 _ := (hb4.block _ KT.out.lt).trans KT.out
  obtain ⟨r0, r1, r2, r3, r4, g0, g1, g2, g3, g4⟩ := kr4.five
  have Kf := hide (Blk.set5 kr4 (.slice A' (D.tick.put k (rzNew D.zs[k].size).z).zs.length c') (.int .i64 D.size) (.int .i64 D.op) (.int .i64 (D.tick.n : Int)) (.bool D.down))
  have Href := hide href
  have Hb4 := hide hb4
  clear href hb4 kr4
  go_wp2_with fail
  refine bodyPost_ret (v := .tuple #[.agg #[.slice A' (D.tick.put k (rzNew D.zs[k].size).z).zs.length c', .int .i64 D.size, .int .i64 D.op, .int .i64 (D.tick.n : Int), .bool D.down], .int .i64 0]) ?_ rfl ?_
  · exact results_dev2 (fn := Try.f50) (p := 4) (u := 5) (g := w.heap.size + 1) rfl _ _ _ _ _ _ _ rfl rfl Kf.out
  · rw [hfin.out, Hzf.out]
    have hst := stored5 (v0 := .slice A' (D.tick.put k (rzNew D.zs[k].size).z).zs.length c') (v1 := .int .i64 D.size) (v2 := .int .i64 D.op) (v3 := .int .i64 (D.tick.n : Int)) (v4 := .bool D.down) HT.out Href.out Hb4.out (r := w.heap.size + 1) (by omega) KT.out.lt
    exact ⟨A', c', es', rfl, hst.1, hst.2⟩

theorem reset_any (h : RefIs w D A c es G) (hn : D.n < 65536) (hl : D.zs.length < 65536) (i : Int) : Calls Try.prog 50 #[.agg #[.slice A D.zs.length c, .int .i64 D.size, .int .i64 D.op, .int .i64 (D.n : Int), .bool D.down], .int .i64 i] w (Gave w G (D.reset i).1 (D.reset i).2) := by
  by_cases h0 : (D.begin_ i).2 = 0
  · obtain ⟨hd, k, rfl, hk⟩ := Dv.begin_zero h0
    by_cases hf : failedOf D.zs[k].state = 0
    · exact reset_ok h hn hl k hd hk hf
    · exact reset_failed h hn hl k hd hk hf
  · exact reset_no h hn hl i h0
end
end Go.Proofs.Ytdinbhanekpjoaa.R7
