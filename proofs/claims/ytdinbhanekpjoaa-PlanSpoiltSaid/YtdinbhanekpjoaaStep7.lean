/-
  step (revetmentlaw07): both, the device and the document's, take one step and answer alike.
-/
import Derived.Test.YtdinbhanekpjoaaTwo7
namespace Go.Proofs.Ytdinbhanekpjoaa
open Go.RowKit
section
variable {w : World} {d c c' : Nat} {D : Dv} {F G : Nat → Prop} {A A' : Option Addr} {bs : List Nat} {Fs : Nat → Nat → Prop} {es : List RZ} {m : Nat}

set_option maxRecDepth 100000 in
set_option maxHeartbeats 2000000 in
theorem step_append (h : Two w d D F A c bs Fs A' c' es G) (hO : D.Ok m) (hm : m < 65000) (hl : D.zs.length < 65536) (o : OpV) (hk : o.kind = 1) :
    Calls Try.prog 18 #[.pointer (some ⟨d, 0, none⟩), .agg #[.slice A' D.zs.length c', .int .i64 D.size, .int .i64 D.op, .int .i64 (D.n : Int), .bool D.down], .agg o.cells.toArray] w (Stepped w F G d A c bs (D.play o)) := by
  have hplay : Hid (D.play o = (D.append o.zone o.s).1) := hide (by simp [Dv.play, hk])
  have hlt := hide h.lt
  have Hm := hide hm
  have Hl := hide hl
  have hN : D.n < 65536 := by have := hO.n; omega
  have hL : ∀ x ∈ D.zs, x.L.length < 65536 := fun x hx => by have := (hO.zs x hx).1; omega
  have HN := hide hN
  have HL := hide hL
  have HO := hide hO
  have hB : Below w.heap.size w (((w.alloc (.cells #[.slice A' D.zs.length c', .int .i64 D.size, .int .i64 D.op, .int .i64 (D.n : Int), .bool D.down] 31)).alloc (.cells o.cells.toArray 37)).alloc (.cells #[.slice none 0 0, .int .i64 0, .int .i64 0, .int .i64 0, .bool false] 31)) := (((Below.refl _ w).alloc (Nat.le_refl _) _).alloc (by simp) _).alloc (by simp; omega) _
  have k0 := ((Blk.new w 31 #[.slice A' D.zs.length c', .int .i64 D.size, .int .i64 D.op, .int .i64 (D.n : Int), .bool D.down]).alloc (.cells o.cells.toArray 37)).alloc (.cells #[.slice none 0 0, .int .i64 0, .int .i64 0, .int .i64 0, .bool false] 31)
  have ko := (Blk.new (w.alloc (.cells #[.slice A' D.zs.length c', .int .i64 D.size, .int .i64 D.op, .int .i64 (D.n : Int), .bool D.down] 31)) 37 o.cells.toArray).alloc (.cells #[.slice none 0 0, .int .i64 0, .int .i64 0, .int .i64 0, .bool false] 31)
  have kr := Blk.new ((w.alloc (.cells #[.slice A' D.zs.length c', .int .i64 D.size, .int .i64 D.op, .int .i64 (D.n : Int), .bool D.down] 31)).alloc (.cells o.cells.toArray 37)) 31 #[.slice none 0 0, .int .i64 0, .int .i64 0, .int .i64 0, .bool false]
  rw [World.size_alloc] at ko
  rw [World.size_alloc, World.size_alloc] at kr
  have h' := hide h
  clear hN hL hO hl hm h
  go_enter Try.func18, Try.ntmps18
  go_upto_region 1 with (fail)
  generalize hW : World.alloc (World.alloc (World.alloc w _) _) _ = W
  have hW' : (((w.alloc (.cells #[.slice A' D.zs.length c', .int .i64 D.size, .int .i64 D.op, .int .i64 (D.n : Int), .bool D.down] 31)).alloc (.cells o.cells.toArray 37)).alloc (.cells #[.slice none 0 0, .int .i64 0, .int .i64 0, .int .i64 0, .bool false] 31)) = W := hW
  rw [hW'] at hB k0 ko kr
  clear hW hW'
  have HB := hide hB
  have H := hide (h'.out.below hB)
  have K0 := hide k0
  have KO := hide ko
  have KR := hide kr
  have hWs := hide kr.lt
  clear hB k0 ko kr
  obtain ⟨s0, s1, s2, s3, s4, fs0, fs1, fs2, fs3, fs4⟩ := K0.out.five
  obtain ⟨o0, o1, o2, o67, or_⟩ := OpV.at_ KO.out
  obtain ⟨m0, m1, m2, m3, m4, g0, g1, g2, g3, g4⟩ := KR.out.five
  have Or := hide or_
  clear or_
  rw [hk] at o0
  clear hk
  go_upto_region 3 with (fail)
  have hdc := DM.append_any H.out.dev HN.out Hl.out HL.out o.zone o.s
  unfold Sec.agg at hdc
  have Hdc := hide hdc
  clear hdc
  go_wp2_with ((with_reducible refine wpList_load_mid ?g36 34 (.tmp 36) ?o36 (w.heap.size + 1) 3 ?x36 o.s.cs ?d36 ?r36 ?u36 ?f36 ?i36 ?_); (case g36 => exact rfl); (case o36 => exact rfl); (case x36 => exact rfl); (case r36 => exact Or.out); (case u36 => exact Try.underlying34); (case f36 => exact rfl); (case i36 => exact ZD.sizeSec o.s))
  refine Hdc.out.mono ?_
  rintro e w1 ⟨rfl, hd⟩
  have k0 := DDid.box K0.out hd (fun hf => by have := hlt.out _ hf; omega)
  have ko := DDid.box KO.out hd (fun hf => by have := hlt.out _ hf; omega)
  have kr := DDid.box KR.out hd (fun hf => by have := hlt.out _ hf; omega)
  clear s0 s1 s2 s3 s4 fs0 fs1 fs2 fs3 fs4 o0 o1 o2 o67 m0 m1 m2 m3 m4 g0 g1 g2 g3 g4 K0 KO KR Or
  have K0 := hide (show Blk w1 w.heap.size 31 _ from k0)
  have KO := hide (show Blk w1 (w.heap.size + 1) 37 _ from ko)
  have KR := hide (show Blk w1 (w.heap.size + 1 + 1) 31 _ from kr)
  clear k0 ko kr
  have href := H.out.refThen hd
  have Hd := hide hd
  have hrc := R7.append_any href HN.out Hl.out HL.out (fun x hx => (HO.out.zs x hx).2.2.2) o.zone o.s
  unfold Sec.agg at hrc
  have Hrc := hide hrc
  clear hrc href hd Hdc
  obtain ⟨s0, s1, s2, s3, s4, fs0, fs1, fs2, fs3, fs4⟩ := K0.out.five
  obtain ⟨o0, o1, o2, o67, or_⟩ := OpV.at_ KO.out
  obtain ⟨m0, m1, m2, m3, m4, g0, g1, g2, g3, g4⟩ := KR.out.five
  have Or := hide or_
  clear or_
  go_wp2_with ((with_reducible refine wpList_load_mid ?g45 34 (.tmp 45) ?o45 (w.heap.size + 1) 3 ?x45 o.s.cs ?d45 ?r45 ?u45 ?f45 ?i45 ?_); (case g45 => exact rfl); (case o45 => exact rfl); (case x45 => exact rfl); (case r45 => exact Or.out); (case u45 => exact Try.underlying34); (case f45 => exact rfl); (case i45 => exact ZD.sizeSec o.s))
  refine Hrc.out.mono ?_
  rintro e w2 ⟨A2, c2, es2, rfl, hr2, hb2⟩
  have k0 := (hb2.block _ K0.out.lt).trans K0.out
  have ko := (hb2.block _ KO.out.lt).trans KO.out
  have kr := (hb2.block _ KR.out.lt).trans KR.out
  clear s0 s1 s2 s3 s4 fs0 fs1 fs2 fs3 fs4 o0 o1 o2 o67 m0 m1 m2 m3 m4 g0 g1 g2 g3 g4 K0 KO KR Or
  have K0 := hide (show Blk w2 w.heap.size 31 _ from k0)
  have KO := hide (show Blk w2 (w.heap.size + 1) 37 _ from ko)
  have KR := hide (show Blk w2 (w.heap.size + 1 + 1) 31 _ from kr)
  clear k0 ko kr
  have Hr2 := hide hr2
  have Hb2 := hide hb2
  clear hr2 hb2 Hrc
  obtain ⟨s0, s1, s2, s3, s4, fs0, fs1, fs2, fs3, fs4⟩ := K0.out.five
  obtain ⟨o0, o1, o2, o67, or_⟩ := OpV.at_ KO.out
  obtain ⟨m0, m1, m2, m3, m4, g0, g1, g2, g3, g4⟩ := KR.out.five
  have Or := hide or_
  clear or_
  have hn2 : w.heap.size + 1 + 1 < w2.heap.size := KR.out.lt
  go_wp2_with fail
  refine bodyPost_ret (v := .tuple #[aggD A2 c2 (D.append o.zone o.s).1, .bool true]) ?_ rfl ?_
  · exact R7.results_dev2 (fn := Try.f18) (p := 6) (u := 7) (g := w.heap.size + 1 + 1) rfl _ _ _ _ _ _ _ rfl rfl (by first | with_reducible exact (Blk.set5 KR.out _ _ _ _ _).alloc _ | with_reducible exact Blk.set5 (KR.out.alloc _) _ _ _ _ _)
  · rw [hplay.out]
    refine Stepped.devRef h'.out HB.out Hd.out Hr2.out Hb2.out ?_
    have hmem : (fun k => w.heap.size ≤ k ∧ k < W.heap.size) (w.heap.size + 1 + 1) := ⟨by omega, hWs.out⟩
    first | with_reducible exact (Mods.set5 _ _ _ _ _ _ _ _ hmem).alloc _ | with_reducible exact Mods.set5 _ _ _ _ _ _ _ _ hmem
theorem RefIs.oldG {w1 wA w2 : World} {D' : Dv} {A2 : Option Addr} {c2 : Nat} {es2 : List RZ} (h : RefIs w2 D' A2 c2 es2 (fun k => G k ∨ wA.heap.size ≤ k)) (hb : w1.heap.size ≤ wA.heap.size) : RefIs w2 D' A2 c2 es2 (fun k => G k ∨ w1.heap.size ≤ k) :=
  h.mono (fun _ hk => hk.imp id (fun h => Nat.le_trans hb h))

set_option maxRecDepth 100000 in
set_option maxHeartbeats 2000000 in
theorem step_read (h : Two w d D F A c bs Fs A' c' es G) (hO : D.Ok m) (hm : m < 65000) (hl : D.zs.length < 65536) (o : OpV) (hk : o.kind = 2) :
    Calls Try.prog 18 #[.pointer (some ⟨d, 0, none⟩), .agg #[.slice A' D.zs.length c', .int .i64 D.size, .int .i64 D.op, .int .i64 (D.n : Int), .bool D.down], .agg o.cells.toArray] w (Stepped w F G d A c bs (D.play o)) := by
  have hplay : Hid (D.play o = (D.read o.zone o.off).1) := hide (by simp [Dv.play, hk])
  have hlt := hide h.lt
  have Hm := hide hm
  have Hl := hide hl
  have hN : D.n < 65536 := by have := hO.n; omega
  have hL : ∀ x ∈ D.zs, x.L.length < 65536 := fun x hx => by have := (hO.zs x hx).1; omega
  have HN := hide hN
  have HL := hide hL
  have HO := hide hO
  have hB : Below w.heap.size w (((w.alloc (.cells #[.slice A' D.zs.length c', .int .i64 D.size, .int .i64 D.op, .int .i64 (D.n : Int), .bool D.down] 31)).alloc (.cells o.cells.toArray 37)).alloc (.cells #[.slice none 0 0, .int .i64 0, .int .i64 0, .int .i64 0, .bool false] 31)) := (((Below.refl _ w).alloc (Nat.le_refl _) _).alloc (by simp) _).alloc (by simp; omega) _
  have k0 := ((Blk.new w 31 #[.slice A' D.zs.length c', .int .i64 D.size, .int .i64 D.op, .int .i64 (D.n : Int), .bool D.down]).alloc (.cells o.cells.toArray 37)).alloc (.cells #[.slice none 0 0, .int .i64 0, .int .i64 0, .int .i64 0, .bool false] 31)
  have ko := (Blk.new (w.alloc (.cells #[.slice A' D.zs.length c', .int .i64 D.size, .int .i64 D.op, .int .i64 (D.n : Int), .bool D.down] 31)) 37 o.cells.toArray).alloc (.cells #[.slice none 0 0, .int .i64 0, .int .i64 0, .int .i64 0, .bool false] 31)
  have kr := Blk.new ((w.alloc (.cells #[.slice A' D.zs.length c', .int .i64 D.size, .int .i64 D.op, .int .i64 (D.n : Int), .bool D.down] 31)).alloc (.cells o.cells.toArray 37)) 31 #[.slice none 0 0, .int .i64 0, .int .i64 0, .int .i64 0, .bool false]
  rw [World.size_alloc] at ko
  rw [World.size_alloc, World.size_alloc] at kr
  have h' := hide h
  clear hN hL hO hl hm h
  go_enter Try.func18, Try.ntmps18
  go_upto_region 1 with (fail)
  generalize hW : World.alloc (World.alloc (World.alloc w _) _) _ = W
  have hW' : (((w.alloc (.cells #[.slice A' D.zs.length c', .int .i64 D.size, .int .i64 D.op, .int .i64 (D.n : Int), .bool D.down] 31)).alloc (.cells o.cells.toArray 37)).alloc (.cells #[.slice none 0 0, .int .i64 0, .int .i64 0, .int .i64 0, .bool false] 31)) = W := hW
  rw [hW'] at hB k0 ko kr
  clear hW hW'
  have HB := hide hB
  have H := hide (h'.out.below hB)
  have K0 := hide k0
  have KO := hide ko
  have KR := hide kr
  have hWs := hide kr.lt
  clear hB k0 ko kr
  obtain ⟨s0, s1, s2, s3, s4, fs0, fs1, fs2, fs3, fs4⟩ := K0.out.five
  obtain ⟨o0, o1, o2, o67, or_⟩ := OpV.at_ KO.out
  obtain ⟨m0, m1, m2, m3, m4, g0, g1, g2, g3, g4⟩ := KR.out.five
  have Or := hide or_
  clear or_
  rw [hk] at o0
  clear hk
  go_upto_region 7 with (fail)
  have hdc := DM.read_any H.out.dev HN.out HL.out o.zone o.off
  unfold Sec.agg at hdc
  have Hdc := hide hdc
  clear hdc
  go_wp2_with fail
  refine Hdc.out.mono ?_
  rintro e w1 ⟨rfl, hd⟩
  have k0 := DDid.box K0.out hd (fun hf => by have := hlt.out _ hf; omega)
  have ko := DDid.box KO.out hd (fun hf => by have := hlt.out _ hf; omega)
  have kr := DDid.box KR.out hd (fun hf => by have := hlt.out _ hf; omega)
  clear s0 s1 s2 s3 s4 fs0 fs1 fs2 fs3 fs4 o0 o1 o2 o67 m0 m1 m2 m3 m4 g0 g1 g2 g3 g4 K0 KO KR Or
  have K0 := hide (show Blk w1 w.heap.size 31 _ from k0)
  have KO := hide (show Blk w1 (w.heap.size + 1) 37 _ from ko)
  have KR := hide (show Blk w1 (w.heap.size + 1 + 1) 31 _ from kr)
  clear k0 ko kr
  have href := H.out.refThen hd
  have Href := hide href
  have Hd := hide hd
  clear href hd Hdc
  have HZ := hide (Blk.new w1 34 Sec.zero.cs.toArray)
  have hA : Below w1.heap.size w1 ((w1.alloc (.cells Sec.zero.cs.toArray 34)).setRow w1.heap.size (D.read o.zone o.off).2.1.cs.toArray) := below_setRow ((Below.refl _ w1).alloc (Nat.le_refl _) _) (Nat.le_refl _) _
  have kx := HZ.out.setRow (D.read o.zone o.off).2.1.cs.toArray
  obtain ⟨s0, s1, s2, s3, s4, fs0, fs1, fs2, fs3, fs4⟩ := K0.out.five
  obtain ⟨o0, o1, o2, o67, or_⟩ := OpV.at_ KO.out
  obtain ⟨m0, m1, m2, m3, m4, g0, g1, g2, g3, g4⟩ := KR.out.five
  have Or := hide or_
  clear or_
  go_upto_region 8 with ((with_reducible refine wpList_store_row ?g69 34 (.tmp 13) (.tmp 69) ?o69 w1.heap.size (D.read o.zone o.off).2.1.cs.toArray ?x69 ?y69 34 Sec.zero.cs.toArray ?k69 ?s69 ?l69 ?a69 ?_); (case g69 => exact rfl); (case o69 => exact rfl); (case x69 => exact rfl); (case y69 => exact rfl); (case k69 => exact HZ.out); (case s69 => exact ZD.sizeRow _); (case l69 => simp [Sec.len]); (case a69 => exact sec_all _))
  generalize hWA : World.setRow (World.alloc w1 _) _ _ = wA
  have hWA' : (w1.alloc (.cells Sec.zero.cs.toArray 34)).setRow w1.heap.size (D.read o.zone o.off).2.1.cs.toArray = wA := hWA
  rw [hWA'] at hA kx
  clear hWA hWA'
  have KX := hide kx
  have Hr1 := hide (Href.out.below hA)
  have HA := hide hA
  have k0 := (HA.out.block _ K0.out.lt).trans K0.out
  have ko := (HA.out.block _ KO.out.lt).trans KO.out
  have kr := (HA.out.block _ KR.out.lt).trans KR.out
  clear s0 s1 s2 s3 s4 fs0 fs1 fs2 fs3 fs4 o0 o1 o2 o67 m0 m1 m2 m3 m4 g0 g1 g2 g3 g4 K0 KO KR Or
  have K0 := hide (show Blk wA w.heap.size 31 _ from k0)
  have KO := hide (show Blk wA (w.heap.size + 1) 37 _ from ko)
  have KR := hide (show Blk wA (w.heap.size + 1 + 1) 31 _ from kr)
  clear k0 ko kr
  have hrc := R7.read_any Hr1.out HN.out Hl.out HL.out o.zone o.off
  unfold Sec.agg at hrc
  have Hrc := hide hrc
  clear hrc hA kx Href HZ
  obtain ⟨s0, s1, s2, s3, s4, fs0, fs1, fs2, fs3, fs4⟩ := K0.out.five
  obtain ⟨o0, o1, o2, o67, or_⟩ := OpV.at_ KO.out
  obtain ⟨m0, m1, m2, m3, m4, g0, g1, g2, g3, g4⟩ := KR.out.five
  have Or := hide or_
  clear or_
  go_wp2_with fail
  refine Hrc.out.mono ?_
  rintro e w2 ⟨A2, c2, es2, rfl, hr2, hb2⟩
  have k0 := (hb2.block _ K0.out.lt).trans K0.out
  have ko := (hb2.block _ KO.out.lt).trans KO.out
  have kr := (hb2.block _ KR.out.lt).trans KR.out
  clear s0 s1 s2 s3 s4 fs0 fs1 fs2 fs3 fs4 o0 o1 o2 o67 m0 m1 m2 m3 m4 g0 g1 g2 g3 g4 K0 KO KR Or
  have K0 := hide (show Blk w2 w.heap.size 31 _ from k0)
  have KO := hide (show Blk w2 (w.heap.size + 1) 37 _ from ko)
  have KR := hide (show Blk w2 (w.heap.size + 1 + 1) 31 _ from kr)
  clear k0 ko kr
  have KX2 : Hid (Blk w2 w1.heap.size 34 (D.read o.zone o.off).2.1.cs.toArray) := hide ((hb2.block _ KX.out.lt).trans KX.out)
  have Hr2 := hide hr2
  have Hb2 := hide hb2
  clear hr2 hb2 Hrc
  have HZ2 : Hid (Blk ((w2.alloc (.cells #[.slice A2 (D.read o.zone o.off).1.zs.length c2, .int .i64 (D.read o.zone o.off).1.size, .int .i64 (D.read o.zone o.off).1.op, .int .i64 ((D.read o.zone o.off).1.n : Int), .bool (D.read o.zone o.off).1.down] 31)).alloc (.cells Sec.zero.cs.toArray 33)) (w2.heap.size + 1) 33 Sec.zero.cs.toArray) := hide (by
    have := Blk.new (w2.alloc (.cells #[.slice A2 (D.read o.zone o.off).1.zs.length c2, .int .i64 (D.read o.zone o.off).1.size, .int .i64 (D.read o.zone o.off).1.op, .int .i64 ((D.read o.zone o.off).1.n : Int), .bool (D.read o.zone o.off).1.down] 31)) 33 Sec.zero.cs.toArray
    rwa [World.size_alloc] at this)
  obtain ⟨s0, s1, s2, s3, s4, fs0, fs1, fs2, fs3, fs4⟩ := K0.out.five
  obtain ⟨o0, o1, o2, o67, or_⟩ := OpV.at_ KO.out
  obtain ⟨m0, m1, m2, m3, m4, g0, g1, g2, g3, g4⟩ := KR.out.five
  have Or := hide or_
  clear or_
  go_upto_region 9 with ((with_reducible refine wpList_store_row ?g79 33 (.tmp 16) (.tmp 79) ?o79 (w2.heap.size + 1) (D.read o.zone o.off).2.1.cs.toArray ?x79 ?y79 33 Sec.zero.cs.toArray ?k79 ?s79 ?l79 ?a79 ?_); (case g79 => exact rfl); (case o79 => exact rfl); (case x79 => exact rfl); (case y79 => exact rfl); (case k79 => exact HZ2.out); (case s79 => exact R7.sizeAr _); (case l79 => simp [Sec.len]); (case a79 => exact sec_all _))
  have kd : Blk (((w2.alloc (.cells #[.slice A2 (D.read o.zone o.off).1.zs.length c2, .int .i64 (D.read o.zone o.off).1.size, .int .i64 (D.read o.zone o.off).1.op, .int .i64 ((D.read o.zone o.off).1.n : Int), .bool (D.read o.zone o.off).1.down] 31)).alloc (.cells Sec.zero.cs.toArray 33)).setRow (w2.heap.size + 1) (D.read o.zone o.off).2.1.cs.toArray) w2.heap.size 31 #[.slice A2 (D.read o.zone o.off).1.zs.length c2, .int .i64 (D.read o.zone o.off).1.size, .int .i64 (D.read o.zone o.off).1.op, .int .i64 ((D.read o.zone o.off).1.n : Int), .bool (D.read o.zone o.off).1.down] := ((Blk.new w2 31 #[.slice A2 (D.read o.zone o.off).1.zs.length c2, .int .i64 (D.read o.zone o.off).1.size, .int .i64 (D.read o.zone o.off).1.op, .int .i64 ((D.read o.zone o.off).1.n : Int), .bool (D.read o.zone o.off).1.down]).alloc (.cells Sec.zero.cs.toArray 33)).setRow_far (by omega) (D.read o.zone o.off).2.1.cs.toArray
  have ka := HZ2.out.setRow (D.read o.zone o.off).2.1.cs.toArray
  have hB3 : Below w2.heap.size w2 (((w2.alloc (.cells #[.slice A2 (D.read o.zone o.off).1.zs.length c2, .int .i64 (D.read o.zone o.off).1.size, .int .i64 (D.read o.zone o.off).1.op, .int .i64 ((D.read o.zone o.off).1.n : Int), .bool (D.read o.zone o.off).1.down] 31)).alloc (.cells Sec.zero.cs.toArray 33)).setRow (w2.heap.size + 1) (D.read o.zone o.off).2.1.cs.toArray) := below_setRow (((Below.refl _ w2).alloc (Nat.le_refl _) _).alloc (by simp) _) (by omega) _
  generalize hWB : World.setRow (World.alloc (World.alloc w2 _) _) _ _ = w3
  have hWB' : ((w2.alloc (.cells #[.slice A2 (D.read o.zone o.off).1.zs.length c2, .int .i64 (D.read o.zone o.off).1.size, .int .i64 (D.read o.zone o.off).1.op, .int .i64 ((D.read o.zone o.off).1.n : Int), .bool (D.read o.zone o.off).1.down] 31)).alloc (.cells Sec.zero.cs.toArray 33)).setRow (w2.heap.size + 1) (D.read o.zone o.off).2.1.cs.toArray = w3 := hWB
  rw [hWB'] at kd ka hB3
  clear hWB hWB'
  have HB3 := hide hB3
  have k0 := (HB3.out.block _ K0.out.lt).trans K0.out
  have ko := (HB3.out.block _ KO.out.lt).trans KO.out
  have kr := (HB3.out.block _ KR.out.lt).trans KR.out
  clear s0 s1 s2 s3 s4 fs0 fs1 fs2 fs3 fs4 o0 o1 o2 o67 m0 m1 m2 m3 m4 g0 g1 g2 g3 g4 K0 KO KR Or
  have K0 := hide (show Blk w3 w.heap.size 31 _ from k0)
  have KO := hide (show Blk w3 (w.heap.size + 1) 37 _ from ko)
  have KR := hide (show Blk w3 (w.heap.size + 1 + 1) 31 _ from kr)
  clear k0 ko kr
  have KD := hide kd
  have KA := hide ka
  have KX3 : Hid (Blk w3 w1.heap.size 34 (D.read o.zone o.off).2.1.cs.toArray) := hide ((HB3.out.block _ KX2.out.lt).trans KX2.out)
  clear hB3 kd ka KX KX2 HZ2
  obtain ⟨x0, x1, x2, x3, x4, -⟩ := KD.out.five
  have qA := eqA (D.read o.zone o.off).2.1
  refine Reg.wp_region_reads (fun w' => w'.cell? ⟨w2.heap.size, 0, none⟩ = some (.slice A2 (D.read o.zone o.off).1.zs.length c2) ∧ w'.cell? ⟨w2.heap.size, 1, none⟩ = some (.int .i64 (D.read o.zone o.off).1.size) ∧ w'.cell? ⟨w2.heap.size, 2, none⟩ = some (.int .i64 (D.read o.zone o.off).1.op) ∧ w'.cell? ⟨w2.heap.size, 3, none⟩ = some (.int .i64 ((D.read o.zone o.off).1.n : Int)) ∧ w'.cell? ⟨w2.heap.size, 4, none⟩ = some (.bool (D.read o.zone o.off).1.down) ∧ w'.rangeAt w1.heap.size 0 (D.read o.zone o.off).2.1.cs ∧ w'.rangeAt (w2.heap.size + 1) 0 (D.read o.zone o.off).2.1.cs) 9 10 (by decide +kernel) (by decide +kernel) ⟨x0, x1, x2, x3, x4, ZD.range_blk _ KX3.out, ZD.range_blk _ KA.out⟩ ?_
  simp only [List.take_succ_cons, List.take_zero, List.drop_succ_cons, List.drop_zero]
  iterate 9
    first
      | (refine Reg.wpReads_load rfl 34 (.tmp 13) rfl w1.heap.size 0 rfl (D.read o.zone o.off).2.1.cs _ (fun w' h => h.2.2.2.2.2.1) Try.underlying34 rfl (ZD.sizeSec _) (fun K hK => ?_)
         go_simp
         refine hK _ ?_
         clear hK K)
      | (refine Reg.wpReads_load rfl 33 (.tmp 16) rfl (w2.heap.size + 1) 0 rfl (D.read o.zone o.off).2.1.cs _ (fun w' h => h.2.2.2.2.2.2) Try.underlying33 rfl (R7.sizeAx _) (fun K hK => ?_)
         go_simp
         refine hK _ ?_
         clear hK K)
      | (apply Reg.wpReads_stepG (by first | rfl | decide)
         · intro w' hS
           obtain ⟨q0, q1, q2, q3, q4, q5, q6⟩ := hS
           go_simp
           first | done | rfl
         intro K hK
         go_simp
         refine hK _ ?_
         clear hK K)
  refine Reg.wpReads_nil ?_
  refine Reg.wpTail_step rfl (fun K hK => ?_)
  obtain ⟨m0, m1, m2, m3, m4, g0, g1, g2, g3, g4⟩ := KR.out.five
  go_simp
  rw [R7.drew_set5]
  have HBd := hide (HB3.out.drew)
  have KRd := hide (show Blk w3.drew (w.heap.size + 1 + 1) 31 _ from KR.out)
  have KDd := hide (show Blk w3.drew w2.heap.size 31 _ from KD.out)
  have KXd := hide (show Blk w3.drew w1.heap.size 34 _ from KX3.out)
  have KAd := hide (show Blk w3.drew (w2.heap.size + 1) 33 _ from KA.out)
  have n1 : W.heap.size ≤ w1.heap.size := by obtain ⟨_, _, _, hm, _⟩ := Hd.out; exact hm.size
  have n2 := HA.out.size
  have n3 := Hb2.out.size
  have n4 := hWs.out
  generalize w3.drew = wD at HBd KRd KDd KXd KAd ⊢
  have Hm5 := hide (Mods.set5 (fun k => k = w.heap.size + 1 + 1) wD (w.heap.size + 1 + 1) (.slice A2 (D.read o.zone o.off).1.zs.length c2) (.int .i64 (D.read o.zone o.off).1.size) (.int .i64 (D.read o.zone o.off).1.op) (.int .i64 ((D.read o.zone o.off).1.n : Int)) (.bool (D.read o.zone o.off).1.down) rfl)
  refine hK _ _ (fun _ => ?_) ?_
  · obtain ⟨x0, x1, x2, x3, x4, -⟩ := Blk.five (KDd.out.mods Hm5.out (by omega))
    exact ⟨x0, x1, x2, x3, x4, R7.range_mods (ZD.range_blk _ KXd.out) Hm5.out (by omega), R7.range_mods (ZD.range_blk _ KAd.out) Hm5.out (by omega)⟩
  have Kf := hide (Blk.set5 KRd.out (.slice A2 (D.read o.zone o.off).1.zs.length c2) (.int .i64 (D.read o.zone o.off).1.size) (.int .i64 (D.read o.zone o.off).1.op) (.int .i64 ((D.read o.zone o.off).1.n : Int)) (.bool (D.read o.zone o.off).1.down))
  clear hK K n1 n2 n3 n4
  refine Reg.wpTail_list _ _ _ _ (by omega) ?_
  go_wp2_with fail
  refine NoPanic.normal ?_
  go_wp2_with fail
  refine bodyPost_ret (v := .tuple #[aggD A2 c2 (D.read o.zone o.off).1, .bool true]) ?_ rfl ?_
  · exact R7.results_dev2 (fn := Try.f18) (p := 6) (u := 7) (g := w.heap.size + 1 + 1) rfl _ _ _ _ _ _ _ rfl rfl (Kf.out)
  · rw [hplay.out]
    refine Stepped.devRef (w1 := w1) h'.out HB.out Hd.out (Hr2.out.oldG HA.out.size) (HA.out.trans (Hb2.out.mono HA.out.size)) ?_
    have hmem : (fun k => w.heap.size ≤ k ∧ k < W.heap.size) (w.heap.size + 1 + 1) := ⟨by omega, hWs.out⟩
    exact (Mods.of_below HBd.out _).trans (Mods.set5 _ _ _ _ _ _ _ _ hmem) (fun _ _ h => h)
theorem R7.range_set5 {w : World} {b g o : Nat} {v0 v1 v2 v3 v4 : Value} {cs : List Value} (hp : g ≠ b) (h : w.rangeAt g o cs) : (((((w.setCell ⟨b, 0, none⟩ v0).setCell ⟨b, 1, none⟩ v1).setCell ⟨b, 2, none⟩ v2).setCell ⟨b, 3, none⟩ v3).setCell ⟨b, 4, none⟩ v4).rangeAt g o cs :=
  R7.range_mods h (Mods.set5 (fun k => k = b) w b v0 v1 v2 v3 v4 rfl) hp

set_option maxRecDepth 100000 in
set_option maxHeartbeats 2000000 in
theorem step_reset (h : Two w d D F A c bs Fs A' c' es G) (hO : D.Ok m) (hm : m < 65000) (hl : D.zs.length < 65536) (o : OpV) (hk : o.kind = 3) :
    Calls Try.prog 18 #[.pointer (some ⟨d, 0, none⟩), .agg #[.slice A' D.zs.length c', .int .i64 D.size, .int .i64 D.op, .int .i64 (D.n : Int), .bool D.down], .agg o.cells.toArray] w (Stepped w F G d A c bs (D.play o)) := by
  have hplay : Hid (D.play o = (D.reset o.zone).1) := hide (by simp [Dv.play, hk])
  have hlt := hide h.lt
  have Hm := hide hm
  have Hl := hide hl
  have hN : D.n < 65536 := by have := hO.n; omega
  have hL : ∀ x ∈ D.zs, x.L.length < 65536 := fun x hx => by have := (hO.zs x hx).1; omega
  have HN := hide hN
  have HL := hide hL
  have HO := hide hO
  have hB : Below w.heap.size w (((w.alloc (.cells #[.slice A' D.zs.length c', .int .i64 D.size, .int .i64 D.op, .int .i64 (D.n : Int), .bool D.down] 31)).alloc (.cells o.cells.toArray 37)).alloc (.cells #[.slice none 0 0, .int .i64 0, .int .i64 0, .int .i64 0, .bool false] 31)) := (((Below.refl _ w).alloc (Nat.le_refl _) _).alloc (by simp) _).alloc (by simp; omega) _
  have k0 := ((Blk.new w 31 #[.slice A' D.zs.length c', .int .i64 D.size, .int .i64 D.op, .int .i64 (D.n : Int), .bool D.down]).alloc (.cells o.cells.toArray 37)).alloc (.cells #[.slice none 0 0, .int .i64 0, .int .i64 0, .int .i64 0, .bool false] 31)
  have ko := (Blk.new (w.alloc (.cells #[.slice A' D.zs.length c', .int .i64 D.size, .int .i64 D.op, .int .i64 (D.n : Int), .bool D.down] 31)) 37 o.cells.toArray).alloc (.cells #[.slice none 0 0, .int .i64 0, .int .i64 0, .int .i64 0, .bool false] 31)
  have kr := Blk.new ((w.alloc (.cells #[.slice A' D.zs.length c', .int .i64 D.size, .int .i64 D.op, .int .i64 (D.n : Int), .bool D.down] 31)).alloc (.cells o.cells.toArray 37)) 31 #[.slice none 0 0, .int .i64 0, .int .i64 0, .int .i64 0, .bool false]
  rw [World.size_alloc] at ko
  rw [World.size_alloc, World.size_alloc] at kr
  have h' := hide h
  clear hN hL hO hl hm h
  go_enter Try.func18, Try.ntmps18
  go_upto_region 1 with (fail)
  generalize hW : World.alloc (World.alloc (World.alloc w _) _) _ = W
  have hW' : (((w.alloc (.cells #[.slice A' D.zs.length c', .int .i64 D.size, .int .i64 D.op, .int .i64 (D.n : Int), .bool D.down] 31)).alloc (.cells o.cells.toArray 37)).alloc (.cells #[.slice none 0 0, .int .i64 0, .int .i64 0, .int .i64 0, .bool false] 31)) = W := hW
  rw [hW'] at hB k0 ko kr
  clear hW hW'
  have HB := hide hB
  have H := hide (h'.out.below hB)
  have K0 := hide k0
  have KO := hide ko
  have KR := hide kr
  have hWs := hide kr.lt
  clear hB k0 ko kr
  obtain ⟨s0, s1, s2, s3, s4, fs0, fs1, fs2, fs3, fs4⟩ := K0.out.five
  obtain ⟨o0, o1, o2, o67, or_⟩ := OpV.at_ KO.out
  obtain ⟨m0, m1, m2, m3, m4, g0, g1, g2, g3, g4⟩ := KR.out.five
  have Or := hide or_
  clear or_
  rw [hk] at o0
  clear hk
  go_upto_region 11 with (fail)
  have hrc := R7.reset_any H.out.ref HN.out Hl.out o.zone
  unfold Sec.agg at hrc
  have Hrc := hide hrc
  clear hrc
  go_wp2_with fail
  refine Hrc.out.mono ?_
  rintro e w1 ⟨A2, c2, es2, rfl, hr1, hb1⟩
  have k0 := (hb1.block _ K0.out.lt).trans K0.out
  have ko := (hb1.block _ KO.out.lt).trans KO.out
  have kr := (hb1.block _ KR.out.lt).trans KR.out
  clear s0 s1 s2 s3 s4 fs0 fs1 fs2 fs3 fs4 o0 o1 o2 o67 m0 m1 m2 m3 m4 g0 g1 g2 g3 g4 K0 KO KR Or
  have K0 := hide (show Blk w1 w.heap.size 31 _ from k0)
  have KO := hide (show Blk w1 (w.heap.size + 1) 37 _ from ko)
  have KR := hide (show Blk w1 (w.heap.size + 1 + 1) 31 _ from kr)
  clear k0 ko kr
  have Hr1 := hide hr1
  have Hb1 := hide hb1
  clear hr1 hb1 Hrc
  obtain ⟨s0, s1, s2, s3, s4, fs0, fs1, fs2, fs3, fs4⟩ := K0.out.five
  obtain ⟨o0, o1, o2, o67, or_⟩ := OpV.at_ KO.out
  obtain ⟨m0, m1, m2, m3, m4, g0, g1, g2, g3, g4⟩ := KR.out.five
  have Or := hide or_
  clear or_
  go_upto_region 12 with (fail)
  have kx := Blk.new w1 31 #[.slice A2 (D.reset o.zone).1.zs.length c2, .int .i64 (D.reset o.zone).1.size, .int .i64 (D.reset o.zone).1.op, .int .i64 ((D.reset o.zone).1.n : Int), .bool (D.reset o.zone).1.down]
  have hb2 : Below w1.heap.size w1 (w1.alloc (.cells #[.slice A2 (D.reset o.zone).1.zs.length c2, .int .i64 (D.reset o.zone).1.size, .int .i64 (D.reset o.zone).1.op, .int .i64 ((D.reset o.zone).1.n : Int), .bool (D.reset o.zone).1.down] 31)) := (Below.refl _ w1).alloc (Nat.le_refl _) _
  generalize w1.alloc (.cells #[.slice A2 (D.reset o.zone).1.zs.length c2, .int .i64 (D.reset o.zone).1.size, .int .i64 (D.reset o.zone).1.op, .int .i64 ((D.reset o.zone).1.n : Int), .bool (D.reset o.zone).1.down] 31) = w2 at kx hb2 ⊢
  have Hb2 := hide hb2
  have k0 := (Hb2.out.block _ K0.out.lt).trans K0.out
  have ko := (Hb2.out.block _ KO.out.lt).trans KO.out
  have kr := (Hb2.out.block _ KR.out.lt).trans KR.out
  clear s0 s1 s2 s3 s4 fs0 fs1 fs2 fs3 fs4 o0 o1 o2 o67 m0 m1 m2 m3 m4 g0 g1 g2 g3 g4 K0 KO KR Or
  have K0 := hide (show Blk w2 w.heap.size 31 _ from k0)
  have KO := hide (show Blk w2 (w.heap.size + 1) 37 _ from ko)
  have KR := hide (show Blk w2 (w.heap.size + 1 + 1) 31 _ from kr)
  clear k0 ko kr
  obtain ⟨bx, hbx⟩ : ∃ b, b = w1.heap.size := ⟨_, rfl⟩
  rw [← hbx] at kx ⊢
  have Hbx := hide hbx
  have KX := hide kx
  have hn1 : w.heap.size + 1 + 1 < bx := by have := hWs.out; have := Hb1.out.size; have := Hbx.out; omega
  have hdv := (((H.out.dev.below Hb1.out).below Hb2.out).drew)
  have hdc := DM.reset_any hdv HN.out o.zone
  unfold Sec.agg at hdc
  have Hdc := hide hdc
  have hNF : Hid (∀ g, w.heap.size ≤ g → ¬ F g) := hide (fun g hg hf => by have := hlt.out _ hf; omega)
  clear hdc hdv kx hb2 hbx
  obtain ⟨x0, x1, x2, x3, x4, -⟩ := Blk.five (show Blk w2.drew bx 31 _ from KX.out)
  obtain ⟨o0, o1, o2, o67, or_⟩ := OpV.at_ (show Blk w2.drew (w.heap.size + 1) 37 o.cells.toArray from KO.out)
  have Or := hide or_
  clear or_
  have hnb : ¬ bx = w.heap.size + 1 + 1 := by omega
  have hnb2 : ¬ w.heap.size + 1 + 1 = bx := by omega
  go_region_held3 (fun w' => w'.cell? ⟨bx, 0, none⟩ = some (.slice A2 (D.reset o.zone).1.zs.length c2) ∧ w'.cell? ⟨bx, 1, none⟩ = some (.int .i64 (D.reset o.zone).1.size) ∧ w'.cell? ⟨bx, 2, none⟩ = some (.int .i64 (D.reset o.zone).1.op) ∧ w'.cell? ⟨bx, 3, none⟩ = some (.int .i64 ((D.reset o.zone).1.n : Int)) ∧ w'.cell? ⟨bx, 4, none⟩ = some (.bool (D.reset o.zone).1.down) ∧ w'.cell? ⟨w.heap.size + 1, 1, none⟩ = some (.int .i64 o.zone)) (first | with_reducible exact ⟨x0, x1, x2, x3, x4, o1⟩ | with_reducible exact ⟨q0, q1, q2, q3, q4, p1⟩ | ((with_reducible refine ⟨R7.set5_cell ?_ q0, R7.set5_cell ?_ q1, R7.set5_cell ?_ q2, R7.set5_cell ?_ q3, R7.set5_cell ?_ q4, R7.set5_cell ?_ p1⟩) <;> (first | omega | (dsimp only; omega))) | go_keep)
    (first | (go_at_call 31; (with_reducible refine Hdc.out.mono ?_); rintro e w4 ⟨rfl, hd⟩; have Hd := hide hd; have KX4 := hide (DDid.box (show Blk w2.drew bx 31 _ from KX.out) hd (hNF.out _ (by omega))); have KO4 := hide (DDid.box (show Blk w2.drew (w.heap.size + 1) 37 _ from KO.out) hd (hNF.out _ (by omega))); have KR4 := hide (DDid.box (show Blk w2.drew (w.heap.size + 1 + 1) 31 _ from KR.out) hd (hNF.out _ (by omega))); clear hd; obtain ⟨q0, q1, q2, q3, q4, -⟩ := KX4.out.five; obtain ⟨p0, p1, p2, p67, pr⟩ := OpV.at_ KO4.out; have Pr := hide pr; clear pr; obtain ⟨m0, m1, m2, m3, m4, g0, g1, g2, g3, g4⟩ := KR4.out.five))
  go_wp2_with fail
  refine bodyPost_ret (v := .tuple #[aggD A2 c2 (D.reset o.zone).1, .bool true]) ?_ rfl ?_
  · exact R7.results_dev2 (fn := Try.f18) (p := 6) (u := 7) (g := w.heap.size + 1 + 1) rfl _ _ _ _ _ _ _ rfl rfl (Blk.set5 KR4.out _ _ _ _ _)
  · rw [hplay.out]
    exact Stepped.refDev h'.out HB.out Hr1.out Hb1.out Hb2.out.drew Hd.out (by omega) hWs.out (Mods.set5 (fun k => k = w.heap.size + 1 + 1) _ _ _ _ _ _ _ rfl)

set_option maxRecDepth 100000 in
set_option maxHeartbeats 2000000 in
theorem step_finish (h : Two w d D F A c bs Fs A' c' es G) (hO : D.Ok m) (hm : m < 65000) (hl : D.zs.length < 65536) (o : OpV) (hk : o.kind = 4) :
    Calls Try.prog 18 #[.pointer (some ⟨d, 0, none⟩), .agg #[.slice A' D.zs.length c', .int .i64 D.size, .int .i64 D.op, .int .i64 (D.n : Int), .bool D.down], .agg o.cells.toArray] w (Stepped w F G d A c bs (D.play o)) := by
  have hplay : Hid (D.play o = (D.finish o.zone).1) := hide (by simp [Dv.play, hk])
  have hlt := hide h.lt
  have Hm := hide hm
  have Hl := hide hl
  have hN : D.n < 65536 := by have := hO.n; omega
  have hL : ∀ x ∈ D.zs, x.L.length < 65536 := fun x hx => by have := (hO.zs x hx).1; omega
  have HN := hide hN
  have HL := hide hL
  have HO := hide hO
  have hB : Below w.heap.size w (((w.alloc (.cells #[.slice A' D.zs.length c', .int .i64 D.size, .int .i64 D.op, .int .i64 (D.n : Int), .bool D.down] 31)).alloc (.cells o.cells.toArray 37)).alloc (.cells #[.slice none 0 0, .int .i64 0, .int .i64 0, .int .i64 0, .bool false] 31)) := (((Below.refl _ w).alloc (Nat.le_refl _) _).alloc (by simp) _).alloc (by simp; omega) _
  have k0 := ((Blk.new w 31 #[.slice A' D.zs.length c', .int .i64 D.size, .int .i64 D.op, .int .i64 (D.n : Int), .bool D.down]).alloc (.cells o.cells.toArray 37)).alloc (.cells #[.slice none 0 0, .int .i64 0, .int .i64 0, .int .i64 0, .bool false] 31)
  have ko := (Blk.new (w.alloc (.cells #[.slice A' D.zs.length c', .int .i64 D.size, .int .i64 D.op, .int .i64 (D.n : Int), .bool D.down] 31)) 37 o.cells.toArray).alloc (.cells #[.slice none 0 0, .int .i64 0, .int .i64 0, .int .i64 0, .bool false] 31)
  have kr := Blk.new ((w.alloc (.cells #[.slice A' D.zs.length c', .int .i64 D.size, .int .i64 D.op, .int .i64 (D.n : Int), .bool D.down] 31)).alloc (.cells o.cells.toArray 37)) 31 #[.slice none 0 0, .int .i64 0, .int .i64 0, .int .i64 0, .bool false]
  rw [World.size_alloc] at ko
  rw [World.size_alloc, World.size_alloc] at kr
  have h' := hide h
  clear hN hL hO hl hm h
  go_enter Try.func18, Try.ntmps18
  go_upto_region 1 with (fail)
  generalize hW : World.alloc (World.alloc (World.alloc w _) _) _ = W
  have hW' : (((w.alloc (.cells #[.slice A' D.zs.length c', .int .i64 D.size, .int .i64 D.op, .int .i64 (D.n : Int), .bool D.down] 31)).alloc (.cells o.cells.toArray 37)).alloc (.cells #[.slice none 0 0, .int .i64 0, .int .i64 0, .int .i64 0, .bool false] 31)) = W := hW
  rw [hW'] at hB k0 ko kr
  clear hW hW'
  have HB := hide hB
  have H := hide (h'.out.below hB)
  have K0 := hide k0
  have KO := hide ko
  have KR := hide kr
  have hWs := hide kr.lt
  clear hB k0 ko kr
  obtain ⟨s0, s1, s2, s3, s4, fs0, fs1, fs2, fs3, fs4⟩ := K0.out.five
  obtain ⟨o0, o1, o2, o67, or_⟩ := OpV.at_ KO.out
  obtain ⟨m0, m1, m2, m3, m4, g0, g1, g2, g3, g4⟩ := KR.out.five
  have Or := hide or_
  clear or_
  rw [hk] at o0
  clear hk
  go_upto_region 14 with (fail)
  have hrc := R7.finish_any H.out.ref HN.out Hl.out o.zone
  unfold Sec.agg at hrc
  have Hrc := hide hrc
  clear hrc
  go_wp2_with fail
  refine Hrc.out.mono ?_
  rintro e w1 ⟨A2, c2, es2, rfl, hr1, hb1⟩
  have k0 := (hb1.block _ K0.out.lt).trans K0.out
  have ko := (hb1.block _ KO.out.lt).trans KO.out
  have kr := (hb1.block _ KR.out.lt).trans KR.out
  clear s0 s1 s2 s3 s4 fs0 fs1 fs2 fs3 fs4 o0 o1 o2 o67 m0 m1 m2 m3 m4 g0 g1 g2 g3 g4 K0 KO KR Or
  have K0 := hide (show Blk w1 w.heap.size 31 _ from k0)
  have KO := hide (show Blk w1 (w.heap.size + 1) 37 _ from ko)
  have KR := hide (show Blk w1 (w.heap.size + 1 + 1) 31 _ from kr)
  clear k0 ko kr
  have Hr1 := hide hr1
  have Hb1 := hide hb1
  clear hr1 hb1 Hrc
  obtain ⟨s0, s1, s2, s3, s4, fs0, fs1, fs2, fs3, fs4⟩ := K0.out.five
  obtain ⟨o0, o1, o2, o67, or_⟩ := OpV.at_ KO.out
  obtain ⟨m0, m1, m2, m3, m4, g0, g1, g2, g3, g4⟩ := KR.out.five
  have Or := hide or_
  clear or_
  go_upto_region 15 with (fail)
  have kx := Blk.new w1 31 #[.slice A2 (D.finish o.zone).1.zs.length c2, .int .i64 (D.finish o.zone).1.size, .int .i64 (D.finish o.zone).1.op, .int .i64 ((D.finish o.zone).1.n : Int), .bool (D.finish o.zone).1.down]
  have hb2 : Below w1.heap.size w1 (w1.alloc (.cells #[.slice A2 (D.finish o.zone).1.zs.length c2, .int .i64 (D.finish o.zone).1.size, .int .i64 (D.finish o.zone).1.op, .int .i64 ((D.finish o.zone).1.n : Int), .bool (D.finish o.zone).1.down] 31)) := (Below.refl _ w1).alloc (Nat.le_refl _) _
  generalize w1.alloc (.cells #[.slice A2 (D.finish o.zone).1.zs.length c2, .int .i64 (D.finish o.zone).1.size, .int .i64 (D.finish o.zone).1.op, .int .i64 ((D.finish o.zone).1.n : Int), .bool (D.finish o.zone).1.down] 31) = w2 at kx hb2 ⊢
  have Hb2 := hide hb2
  have k0 := (Hb2.out.block _ K0.out.lt).trans K0.out
  have ko := (Hb2.out.block _ KO.out.lt).trans KO.out
  have kr := (Hb2.out.block _ KR.out.lt).trans KR.out
  clear s0 s1 s2 s3 s4 fs0 fs1 fs2 fs3 fs4 o0 o1 o2 o67 m0 m1 m2 m3 m4 g0 g1 g2 g3 g4 K0 KO KR Or
  have K0 := hide (show Blk w2 w.heap.size 31 _ from k0)
  have KO := hide (show Blk w2 (w.heap.size + 1) 37 _ from ko)
  have KR := hide (show Blk w2 (w.heap.size + 1 + 1) 31 _ from kr)
  clear k0 ko kr
  obtain ⟨bx, hbx⟩ : ∃ b, b = w1.heap.size := ⟨_, rfl⟩
  rw [← hbx] at kx ⊢
  have Hbx := hide hbx
  have KX := hide kx
  have hn1 : w.heap.size + 1 + 1 < bx := by have := hWs.out; have := Hb1.out.size; have := Hbx.out; omega
  have hdv := (((H.out.dev.below Hb1.out).below Hb2.out).drew)
  have hdc := DM.finish_any hdv HN.out o.zone
  unfold Sec.agg at hdc
  have Hdc := hide hdc
  have hNF : Hid (∀ g, w.heap.size ≤ g → ¬ F g) := hide (fun g hg hf => by have := hlt.out _ hf; omega)
  clear hdc hdv kx hb2 hbx
  obtain ⟨x0, x1, x2, x3, x4, -⟩ := Blk.five (show Blk w2.drew bx 31 _ from KX.out)
  obtain ⟨o0, o1, o2, o67, or_⟩ := OpV.at_ (show Blk w2.drew (w.heap.size + 1) 37 o.cells.toArray from KO.out)
  have Or := hide or_
  clear or_
  have hnb : ¬ bx = w.heap.size + 1 + 1 := by omega
  have hnb2 : ¬ w.heap.size + 1 + 1 = bx := by omega
  go_region_held3 (fun w' => w'.cell? ⟨bx, 0, none⟩ = some (.slice A2 (D.finish o.zone).1.zs.length c2) ∧ w'.cell? ⟨bx, 1, none⟩ = some (.int .i64 (D.finish o.zone).1.size) ∧ w'.cell? ⟨bx, 2, none⟩ = some (.int .i64 (D.finish o.zone).1.op) ∧ w'.cell? ⟨bx, 3, none⟩ = some (.int .i64 ((D.finish o.zone).1.n : Int)) ∧ w'.cell? ⟨bx, 4, none⟩ = some (.bool (D.finish o.zone).1.down) ∧ w'.cell? ⟨w.heap.size + 1, 1, none⟩ = some (.int .i64 o.zone)) (first | with_reducible exact ⟨x0, x1, x2, x3, x4, o1⟩ | with_reducible exact ⟨q0, q1, q2, q3, q4, p1⟩ | ((with_reducible refine ⟨R7.set5_cell ?_ q0, R7.set5_cell ?_ q1, R7.set5_cell ?_ q2, R7.set5_cell ?_ q3, R7.set5_cell ?_ q4, R7.set5_cell ?_ p1⟩) <;> (first | omega | (dsimp only; omega))) | go_keep)
    (first | (go_at_call 32; (with_reducible refine Hdc.out.mono ?_); rintro e w4 ⟨rfl, hd⟩; have Hd := hide hd; have KX4 := hide (DDid.box (show Blk w2.drew bx 31 _ from KX.out) hd (hNF.out _ (by omega))); have KO4 := hide (DDid.box (show Blk w2.drew (w.heap.size + 1) 37 _ from KO.out) hd (hNF.out _ (by omega))); have KR4 := hide (DDid.box (show Blk w2.drew (w.heap.size + 1 + 1) 31 _ from KR.out) hd (hNF.out _ (by omega))); clear hd; obtain ⟨q0, q1, q2, q3, q4, -⟩ := KX4.out.five; obtain ⟨p0, p1, p2, p67, pr⟩ := OpV.at_ KO4.out; have Pr := hide pr; clear pr; obtain ⟨m0, m1, m2, m3, m4, g0, g1, g2, g3, g4⟩ := KR4.out.five))
  go_wp2_with fail
  refine bodyPost_ret (v := .tuple #[aggD A2 c2 (D.finish o.zone).1, .bool true]) ?_ rfl ?_
  · exact R7.results_dev2 (fn := Try.f18) (p := 6) (u := 7) (g := w.heap.size + 1 + 1) rfl _ _ _ _ _ _ _ rfl rfl (Blk.set5 KR4.out _ _ _ _ _)
  · rw [hplay.out]
    exact Stepped.refDev h'.out HB.out Hr1.out Hb1.out Hb2.out.drew Hd.out (by omega) hWs.out (Mods.set5 (fun k => k = w.heap.size + 1 + 1) _ _ _ _ _ _ _ rfl)

set_option maxRecDepth 100000 in
set_option maxHeartbeats 2000000 in
theorem step_flush (h : Two w d D F A c bs Fs A' c' es G) (hO : D.Ok m) (hm : m < 65000) (hl : D.zs.length < 65536) (o : OpV) (hk : o.kind = 5) :
    Calls Try.prog 18 #[.pointer (some ⟨d, 0, none⟩), .agg #[.slice A' D.zs.length c', .int .i64 D.size, .int .i64 D.op, .int .i64 (D.n : Int), .bool D.down], .agg o.cells.toArray] w (Stepped w F G d A c bs (D.play o)) := by
  have hplay : Hid (D.play o = D.flush.1) := hide (by simp [Dv.play, hk])
  have hlt := hide h.lt
  have Hm := hide hm
  have Hl := hide hl
  have hN : D.n < 65536 := by have := hO.n; omega
  have hL : ∀ x ∈ D.zs, x.L.length < 65536 := fun x hx => by have := (hO.zs x hx).1; omega
  have HN := hide hN
  have HL := hide hL
  have HO := hide hO
  have hB : Below w.heap.size w (((w.alloc (.cells #[.slice A' D.zs.length c', .int .i64 D.size, .int .i64 D.op, .int .i64 (D.n : Int), .bool D.down] 31)).alloc (.cells o.cells.toArray 37)).alloc (.cells #[.slice none 0 0, .int .i64 0, .int .i64 0, .int .i64 0, .bool false] 31)) := (((Below.refl _ w).alloc (Nat.le_refl _) _).alloc (by simp) _).alloc (by simp; omega) _
  have k0 := ((Blk.new w 31 #[.slice A' D.zs.length c', .int .i64 D.size, .int .i64 D.op, .int .i64 (D.n : Int), .bool D.down]).alloc (.cells o.cells.toArray 37)).alloc (.cells #[.slice none 0 0, .int .i64 0, .int .i64 0, .int .i64 0, .bool false] 31)
  have ko := (Blk.new (w.alloc (.cells #[.slice A' D.zs.length c', .int .i64 D.size, .int .i64 D.op, .int .i64 (D.n : Int), .bool D.down] 31)) 37 o.cells.toArray).alloc (.cells #[.slice none 0 0, .int .i64 0, .int .i64 0, .int .i64 0, .bool false] 31)
  have kr := Blk.new ((w.alloc (.cells #[.slice A' D.zs.length c', .int .i64 D.size, .int .i64 D.op, .int .i64 (D.n : Int), .bool D.down] 31)).alloc (.cells o.cells.toArray 37)) 31 #[.slice none 0 0, .int .i64 0, .int .i64 0, .int .i64 0, .bool false]
  rw [World.size_alloc] at ko
  rw [World.size_alloc, World.size_alloc] at kr
  have h' := hide h
  clear hN hL hO hl hm h
  go_enter Try.func18, Try.ntmps18
  go_upto_region 1 with (fail)
  generalize hW : World.alloc (World.alloc (World.alloc w _) _) _ = W
  have hW' : (((w.alloc (.cells #[.slice A' D.zs.length c', .int .i64 D.size, .int .i64 D.op, .int .i64 (D.n : Int), .bool D.down] 31)).alloc (.cells o.cells.toArray 37)).alloc (.cells #[.slice none 0 0, .int .i64 0, .int .i64 0, .int .i64 0, .bool false] 31)) = W := hW
  rw [hW'] at hB k0 ko kr
  clear hW hW'
  have HB := hide hB
  have H := hide (h'.out.below hB)
  have K0 := hide k0
  have KO := hide ko
  have KR := hide kr
  have hWs := hide kr.lt
  clear hB k0 ko kr
  obtain ⟨s0, s1, s2, s3, s4, fs0, fs1, fs2, fs3, fs4⟩ := K0.out.five
  obtain ⟨o0, o1, o2, o67, or_⟩ := OpV.at_ KO.out
  obtain ⟨m0, m1, m2, m3, m4, g0, g1, g2, g3, g4⟩ := KR.out.five
  have Or := hide or_
  clear or_
  rw [hk] at o0
  clear hk
  go_upto_region 17 with (fail)
  have hrc := R7.flush_any H.out.ref HN.out Hl.out
  unfold Sec.agg at hrc
  have Hrc := hide hrc
  clear hrc
  go_wp2_with fail
  refine Hrc.out.mono ?_
  rintro e w1 ⟨A2, c2, es2, rfl, hr1, hb1⟩
  have k0 := (hb1.block _ K0.out.lt).trans K0.out
  have ko := (hb1.block _ KO.out.lt).trans KO.out
  have kr := (hb1.block _ KR.out.lt).trans KR.out
  clear s0 s1 s2 s3 s4 fs0 fs1 fs2 fs3 fs4 o0 o1 o2 o67 m0 m1 m2 m3 m4 g0 g1 g2 g3 g4 K0 KO KR Or
  have K0 := hide (show Blk w1 w.heap.size 31 _ from k0)
  have KO := hide (show Blk w1 (w.heap.size + 1) 37 _ from ko)
  have KR := hide (show Blk w1 (w.heap.size + 1 + 1) 31 _ from kr)
  clear k0 ko kr
  have Hr1 := hide hr1
  have Hb1 := hide hb1
  clear hr1 hb1 Hrc
  obtain ⟨s0, s1, s2, s3, s4, fs0, fs1, fs2, fs3, fs4⟩ := K0.out.five
  obtain ⟨o0, o1, o2, o67, or_⟩ := OpV.at_ KO.out
  obtain ⟨m0, m1, m2, m3, m4, g0, g1, g2, g3, g4⟩ := KR.out.five
  have Or := hide or_
  clear or_
  go_upto_region 18 with (fail)
  have kx := Blk.new w1 31 #[.slice A2 D.flush.1.zs.length c2, .int .i64 D.flush.1.size, .int .i64 D.flush.1.op, .int .i64 (D.flush.1.n : Int), .bool D.flush.1.down]
  have hb2 : Below w1.heap.size w1 (w1.alloc (.cells #[.slice A2 D.flush.1.zs.length c2, .int .i64 D.flush.1.size, .int .i64 D.flush.1.op, .int .i64 (D.flush.1.n : Int), .bool D.flush.1.down] 31)) := (Below.refl _ w1).alloc (Nat.le_refl _) _
  generalize w1.alloc (.cells #[.slice A2 D.flush.1.zs.length c2, .int .i64 D.flush.1.size, .int .i64 D.flush.1.op, .int .i64 (D.flush.1.n : Int), .bool D.flush.1.down] 31) = w2 at kx hb2 ⊢
  have Hb2 := hide hb2
  have k0 := (Hb2.out.block _ K0.out.lt).trans K0.out
  have ko := (Hb2.out.block _ KO.out.lt).trans KO.out
  have kr := (Hb2.out.block _ KR.out.lt).trans KR.out
  clear s0 s1 s2 s3 s4 fs0 fs1 fs2 fs3 fs4 o0 o1 o2 o67 m0 m1 m2 m3 m4 g0 g1 g2 g3 g4 K0 KO KR Or
  have K0 := hide (show Blk w2 w.heap.size 31 _ from k0)
  have KO := hide (show Blk w2 (w.heap.size + 1) 37 _ from ko)
  have KR := hide (show Blk w2 (w.heap.size + 1 + 1) 31 _ from kr)
  clear k0 ko kr
  obtain ⟨bx, hbx⟩ : ∃ b, b = w1.heap.size := ⟨_, rfl⟩
  rw [← hbx] at kx ⊢
  have Hbx := hide hbx
  have KX := hide kx
  have hn1 : w.heap.size + 1 + 1 < bx := by have := hWs.out; have := Hb1.out.size; have := Hbx.out; omega
  have hdv := (((H.out.dev.below Hb1.out).below Hb2.out).drew)
  have hdc := DM.flush_any hdv HN.out Hl.out
  unfold Sec.agg at hdc
  have Hdc := hide hdc
  have hNF : Hid (∀ g, w.heap.size ≤ g → ¬ F g) := hide (fun g hg hf => by have := hlt.out _ hf; omega)
  clear hdc hdv kx hb2 hbx
  obtain ⟨x0, x1, x2, x3, x4, -⟩ := Blk.five (show Blk w2.drew bx 31 _ from KX.out)
  obtain ⟨o0, o1, o2, o67, or_⟩ := OpV.at_ (show Blk w2.drew (w.heap.size + 1) 37 o.cells.toArray from KO.out)
  have Or := hide or_
  clear or_
  have hnb : ¬ bx = w.heap.size + 1 + 1 := by omega
  have hnb2 : ¬ w.heap.size + 1 + 1 = bx := by omega
  go_region_held3 (fun w' => w'.cell? ⟨bx, 0, none⟩ = some (.slice A2 D.flush.1.zs.length c2) ∧ w'.cell? ⟨bx, 1, none⟩ = some (.int .i64 D.flush.1.size) ∧ w'.cell? ⟨bx, 2, none⟩ = some (.int .i64 D.flush.1.op) ∧ w'.cell? ⟨bx, 3, none⟩ = some (.int .i64 (D.flush.1.n : Int)) ∧ w'.cell? ⟨bx, 4, none⟩ = some (.bool D.flush.1.down)) (first | with_reducible exact ⟨x0, x1, x2, x3, x4⟩ | with_reducible exact ⟨q0, q1, q2, q3, q4⟩ | ((with_reducible refine ⟨R7.set5_cell ?_ q0, R7.set5_cell ?_ q1, R7.set5_cell ?_ q2, R7.set5_cell ?_ q3, R7.set5_cell ?_ q4⟩) <;> (first | omega | (dsimp only; omega))) | go_keep)
    (first | (go_at_call 19; (with_reducible refine Hdc.out.mono ?_); rintro e w4 ⟨rfl, hd⟩; have Hd := hide hd; have KX4 := hide (DDid.box (show Blk w2.drew bx 31 _ from KX.out) hd (hNF.out _ (by omega))); have KO4 := hide (DDid.box (show Blk w2.drew (w.heap.size + 1) 37 _ from KO.out) hd (hNF.out _ (by omega))); have KR4 := hide (DDid.box (show Blk w2.drew (w.heap.size + 1 + 1) 31 _ from KR.out) hd (hNF.out _ (by omega))); clear hd; obtain ⟨q0, q1, q2, q3, q4, -⟩ := KX4.out.five; obtain ⟨p0, p1, p2, p67, pr⟩ := OpV.at_ KO4.out; have Pr := hide pr; clear pr; obtain ⟨m0, m1, m2, m3, m4, g0, g1, g2, g3, g4⟩ := KR4.out.five))
  go_wp2_with fail
  refine bodyPost_ret (v := .tuple #[aggD A2 c2 D.flush.1, .bool true]) ?_ rfl ?_
  · exact R7.results_dev2 (fn := Try.f18) (p := 6) (u := 7) (g := w.heap.size + 1 + 1) rfl _ _ _ _ _ _ _ rfl rfl (Blk.set5 KR4.out _ _ _ _ _)
  · rw [hplay.out]
    exact Stepped.refDev h'.out HB.out Hr1.out Hb1.out Hb2.out.drew Hd.out (by omega) hWs.out (Mods.set5 (fun k => k = w.heap.size + 1 + 1) _ _ _ _ _ _ _ rfl)

set_option maxRecDepth 100000 in
set_option maxHeartbeats 2000000 in
theorem step_fail (h : Two w d D F A c bs Fs A' c' es G) (hO : D.Ok m) (hm : m < 65000) (hl : D.zs.length < 65536) (o : OpV) (hk : o.kind = 8) :
    Calls Try.prog 18 #[.pointer (some ⟨d, 0, none⟩), .agg #[.slice A' D.zs.length c', .int .i64 D.size, .int .i64 D.op, .int .i64 (D.n : Int), .bool D.down], .agg o.cells.toArray] w (Stepped w F G d A c bs (D.play o)) := by
  have hplay : Hid (D.play o = (D.fail o.zone o.off).1) := hide (by simp [Dv.play, hk])
  have hlt := hide h.lt
  have Hm := hide hm
  have Hl := hide hl
  have hN : D.n < 65536 := by have := hO.n; omega
  have hL : ∀ x ∈ D.zs, x.L.length < 65536 := fun x hx => by have := (hO.zs x hx).1; omega
  have HN := hide hN
  have HL := hide hL
  have HO := hide hO
  have hB : Below w.heap.size w (((w.alloc (.cells #[.slice A' D.zs.length c', .int .i64 D.size, .int .i64 D.op, .int .i64 (D.n : Int), .bool D.down] 31)).alloc (.cells o.cells.toArray 37)).alloc (.cells #[.slice none 0 0, .int .i64 0, .int .i64 0, .int .i64 0, .bool false] 31)) := (((Below.refl _ w).alloc (Nat.le_refl _) _).alloc (by simp) _).alloc (by simp; omega) _
  have k0 := ((Blk.new w 31 #[.slice A' D.zs.length c', .int .i64 D.size, .int .i64 D.op, .int .i64 (D.n : Int), .bool D.down]).alloc (.cells o.cells.toArray 37)).alloc (.cells #[.slice none 0 0, .int .i64 0, .int .i64 0, .int .i64 0, .bool false] 31)
  have ko := (Blk.new (w.alloc (.cells #[.slice A' D.zs.length c', .int .i64 D.size, .int .i64 D.op, .int .i64 (D.n : Int), .bool D.down] 31)) 37 o.cells.toArray).alloc (.cells #[.slice none 0 0, .int .i64 0, .int .i64 0, .int .i64 0, .bool false] 31)
  have kr := Blk.new ((w.alloc (.cells #[.slice A' D.zs.length c', .int .i64 D.size, .int .i64 D.op, .int .i64 (D.n : Int), .bool D.down] 31)).alloc (.cells o.cells.toArray 37)) 31 #[.slice none 0 0, .int .i64 0, .int .i64 0, .int .i64 0, .bool false]
  rw [World.size_alloc] at ko
  rw [World.size_alloc, World.size_alloc] at kr
  have h' := hide h
  clear hN hL hO hl hm h
  go_enter Try.func18, Try.ntmps18
  go_upto_region 1 with (fail)
  generalize hW : World.alloc (World.alloc (World.alloc w _) _) _ = W
  have hW' : (((w.alloc (.cells #[.slice A' D.zs.length c', .int .i64 D.size, .int .i64 D.op, .int .i64 (D.n : Int), .bool D.down] 31)).alloc (.cells o.cells.toArray 37)).alloc (.cells #[.slice none 0 0, .int .i64 0, .int .i64 0, .int .i64 0, .bool false] 31)) = W := hW
  rw [hW'] at hB k0 ko kr
  clear hW hW'
  have HB := hide hB
  have H := hide (h'.out.below hB)
  have K0 := hide k0
  have KO := hide ko
  have KR := hide kr
  have hWs := hide kr.lt
  clear hB k0 ko kr
  obtain ⟨s0, s1, s2, s3, s4, fs0, fs1, fs2, fs3, fs4⟩ := K0.out.five
  obtain ⟨o0, o1, o2, o67, or_⟩ := OpV.at_ KO.out
  obtain ⟨m0, m1, m2, m3, m4, g0, g1, g2, g3, g4⟩ := KR.out.five
  have Or := hide or_
  clear or_
  rw [hk] at o0
  clear hk
  go_upto_region 27 with (fail)
  have hrc := R7.fail_any H.out.ref Hl.out o.zone o.off
  unfold Sec.agg at hrc
  have Hrc := hide hrc
  clear hrc
  go_wp2_with fail
  refine Hrc.out.mono ?_
  rintro e w1 ⟨A2, c2, es2, rfl, hr1, hb1⟩
  have k0 := (hb1.block _ K0.out.lt).trans K0.out
  have ko := (hb1.block _ KO.out.lt).trans KO.out
  have kr := (hb1.block _ KR.out.lt).trans KR.out
  clear s0 s1 s2 s3 s4 fs0 fs1 fs2 fs3 fs4 o0 o1 o2 o67 m0 m1 m2 m3 m4 g0 g1 g2 g3 g4 K0 KO KR Or
  have K0 := hide (show Blk w1 w.heap.size 31 _ from k0)
  have KO := hide (show Blk w1 (w.heap.size + 1) 37 _ from ko)
  have KR := hide (show Blk w1 (w.heap.size + 1 + 1) 31 _ from kr)
  clear k0 ko kr
  have Hr1 := hide hr1
  have Hb1 := hide hb1
  clear hr1 hb1 Hrc
  obtain ⟨s0, s1, s2, s3, s4, fs0, fs1, fs2, fs3, fs4⟩ := K0.out.five
  obtain ⟨o0, o1, o2, o67, or_⟩ := OpV.at_ KO.out
  obtain ⟨m0, m1, m2, m3, m4, g0, g1, g2, g3, g4⟩ := KR.out.five
  have Or := hide or_
  clear or_
  go_upto_region 28 with (fail)
  have kx := Blk.new w1 31 #[.slice A2 (D.fail o.zone o.off).1.zs.length c2, .int .i64 (D.fail o.zone o.off).1.size, .int .i64 (D.fail o.zone o.off).1.op, .int .i64 ((D.fail o.zone o.off).1.n : Int), .bool (D.fail o.zone o.off).1.down]
  have hb2 : Below w1.heap.size w1 (w1.alloc (.cells #[.slice A2 (D.fail o.zone o.off).1.zs.length c2, .int .i64 (D.fail o.zone o.off).1.size, .int .i64 (D.fail o.zone o.off).1.op, .int .i64 ((D.fail o.zone o.off).1.n : Int), .bool (D.fail o.zone o.off).1.down] 31)) := (Below.refl _ w1).alloc (Nat.le_refl _) _
  generalize w1.alloc (.cells #[.slice A2 (D.fail o.zone o.off).1.zs.length c2, .int .i64 (D.fail o.zone o.off).1.size, .int .i64 (D.fail o.zone o.off).1.op, .int .i64 ((D.fail o.zone o.off).1.n : Int), .bool (D.fail o.zone o.off).1.down] 31) = w2 at kx hb2 ⊢
  have Hb2 := hide hb2
  have k0 := (Hb2.out.block _ K0.out.lt).trans K0.out
  have ko := (Hb2.out.block _ KO.out.lt).trans KO.out
  have kr := (Hb2.out.block _ KR.out.lt).trans KR.out
  clear s0 s1 s2 s3 s4 fs0 fs1 fs2 fs3 fs4 o0 o1 o2 o67 m0 m1 m2 m3 m4 g0 g1 g2 g3 g4 K0 KO KR Or
  have K0 := hide (show Blk w2 w.heap.size 31 _ from k0)
  have KO := hide (show Blk w2 (w.heap.size + 1) 37 _ from ko)
  have KR := hide (show Blk w2 (w.heap.size + 1 + 1) 31 _ from kr)
  clear k0 ko kr
  obtain ⟨bx, hbx⟩ : ∃ b, b = w1.heap.size := ⟨_, rfl⟩
  rw [← hbx] at kx ⊢
  have Hbx := hide hbx
  have KX := hide kx
  have hn1 : w.heap.size + 1 + 1 < bx := by have := hWs.out; have := Hb1.out.size; have := Hbx.out; omega
  have hdv := (((H.out.dev.below Hb1.out).below Hb2.out).drew)
  have hdc := DM.fail_any hdv o.zone o.off
  unfold Sec.agg at hdc
  have Hdc := hide hdc
  have hNF : Hid (∀ g, w.heap.size ≤ g → ¬ F g) := hide (fun g hg hf => by have := hlt.out _ hf; omega)
  clear hdc hdv kx hb2 hbx
  obtain ⟨x0, x1, x2, x3, x4, -⟩ := Blk.five (show Blk w2.drew bx 31 _ from KX.out)
  obtain ⟨o0, o1, o2, o67, or_⟩ := OpV.at_ (show Blk w2.drew (w.heap.size + 1) 37 o.cells.toArray from KO.out)
  have Or := hide or_
  clear or_
  have hnb : ¬ bx = w.heap.size + 1 + 1 := by omega
  have hnb2 : ¬ w.heap.size + 1 + 1 = bx := by omega
  go_region_held3 (fun w' => w'.cell? ⟨bx, 0, none⟩ = some (.slice A2 (D.fail o.zone o.off).1.zs.length c2) ∧ w'.cell? ⟨bx, 1, none⟩ = some (.int .i64 (D.fail o.zone o.off).1.size) ∧ w'.cell? ⟨bx, 2, none⟩ = some (.int .i64 (D.fail o.zone o.off).1.op) ∧ w'.cell? ⟨bx, 3, none⟩ = some (.int .i64 ((D.fail o.zone o.off).1.n : Int)) ∧ w'.cell? ⟨bx, 4, none⟩ = some (.bool (D.fail o.zone o.off).1.down) ∧ w'.cell? ⟨w.heap.size + 1, 1, none⟩ = some (.int .i64 o.zone) ∧ w'.cell? ⟨w.heap.size + 1, 2, none⟩ = some (.int .i64 o.off)) (first | with_reducible exact ⟨x0, x1, x2, x3, x4, o1, o2⟩ | with_reducible exact ⟨q0, q1, q2, q3, q4, p1, p2⟩ | ((with_reducible refine ⟨R7.set5_cell ?_ q0, R7.set5_cell ?_ q1, R7.set5_cell ?_ q2, R7.set5_cell ?_ q3, R7.set5_cell ?_ q4, R7.set5_cell ?_ p1, R7.set5_cell ?_ p2⟩) <;> (first | omega | (dsimp only; omega))) | go_keep)
    (first | (go_at_call 55; (with_reducible refine Hdc.out.mono ?_); rintro e w4 ⟨rfl, hd⟩; have Hd := hide hd; have KX4 := hide (DDid.box (show Blk w2.drew bx 31 _ from KX.out) hd (hNF.out _ (by omega))); have KO4 := hide (DDid.box (show Blk w2.drew (w.heap.size + 1) 37 _ from KO.out) hd (hNF.out _ (by omega))); have KR4 := hide (DDid.box (show Blk w2.drew (w.heap.size + 1 + 1) 31 _ from KR.out) hd (hNF.out _ (by omega))); clear hd; obtain ⟨q0, q1, q2, q3, q4, -⟩ := KX4.out.five; obtain ⟨p0, p1, p2, p67, pr⟩ := OpV.at_ KO4.out; have Pr := hide pr; clear pr; obtain ⟨m0, m1, m2, m3, m4, g0, g1, g2, g3, g4⟩ := KR4.out.five))
  go_wp2_with fail
  refine bodyPost_ret (v := .tuple #[aggD A2 c2 (D.fail o.zone o.off).1, .bool true]) ?_ rfl ?_
  · exact R7.results_dev2 (fn := Try.f18) (p := 6) (u := 7) (g := w.heap.size + 1 + 1) rfl _ _ _ _ _ _ _ rfl rfl (Blk.set5 KR4.out _ _ _ _ _)
  · rw [hplay.out]
    exact Stepped.refDev h'.out HB.out Hr1.out Hb1.out Hb2.out.drew Hd.out (by omega) hWs.out (Mods.set5 (fun k => k = w.heap.size + 1 + 1) _ _ _ _ _ _ _ rfl)

set_option maxRecDepth 100000 in
set_option maxHeartbeats 2000000 in
theorem step_spoil (h : Two w d D F A c bs Fs A' c' es G) (hO : D.Ok m) (hm : m < 65000) (hl : D.zs.length < 65536) (o : OpV) (hk : o.kind = 9) :
    Calls Try.prog 18 #[.pointer (some ⟨d, 0, none⟩), .agg #[.slice A' D.zs.length c', .int .i64 D.size, .int .i64 D.op, .int .i64 (D.n : Int), .bool D.down], .agg o.cells.toArray] w (Stepped w F G d A c bs (D.play o)) := by
  have hplay : Hid (D.play o = (D.spoil o.zone o.off o.s).1) := hide (by simp [Dv.play, hk])
  have hlt := hide h.lt
  have Hm := hide hm
  have Hl := hide hl
  have hN : D.n < 65536 := by have := hO.n; omega
  have hL : ∀ x ∈ D.zs, x.L.length < 65536 := fun x hx => by have := (hO.zs x hx).1; omega
  have HN := hide hN
  have HL := hide hL
  have HO := hide hO
  have hB : Below w.heap.size w (((w.alloc (.cells #[.slice A' D.zs.length c', .int .i64 D.size, .int .i64 D.op, .int .i64 (D.n : Int), .bool D.down] 31)).alloc (.cells o.cells.toArray 37)).alloc (.cells #[.slice none 0 0, .int .i64 0, .int .i64 0, .int .i64 0, .bool false] 31)) := (((Below.refl _ w).alloc (Nat.le_refl _) _).alloc (by simp) _).alloc (by simp; omega) _
  have k0 := ((Blk.new w 31 #[.slice A' D.zs.length c', .int .i64 D.size, .int .i64 D.op, .int .i64 (D.n : Int), .bool D.down]).alloc (.cells o.cells.toArray 37)).alloc (.cells #[.slice none 0 0, .int .i64 0, .int .i64 0, .int .i64 0, .bool false] 31)
  have ko := (Blk.new (w.alloc (.cells #[.slice A' D.zs.length c', .int .i64 D.size, .int .i64 D.op, .int .i64 (D.n : Int), .bool D.down] 31)) 37 o.cells.toArray).alloc (.cells #[.slice none 0 0, .int .i64 0, .int .i64 0, .int .i64 0, .bool false] 31)
  have kr := Blk.new ((w.alloc (.cells #[.slice A' D.zs.length c', .int .i64 D.size, .int .i64 D.op, .int .i64 (D.n : Int), .bool D.down] 31)).alloc (.cells o.cells.toArray 37)) 31 #[.slice none 0 0, .int .i64 0, .int .i64 0, .int .i64 0, .bool false]
  rw [World.size_alloc] at ko
  rw [World.size_alloc, World.size_alloc] at kr
  have h' := hide h
  clear hN hL hO hl hm h
  go_enter Try.func18, Try.ntmps18
  go_upto_region 1 with (fail)
  generalize hW : World.alloc (World.alloc (World.alloc w _) _) _ = W
  have hW' : (((w.alloc (.cells #[.slice A' D.zs.length c', .int .i64 D.size, .int .i64 D.op, .int .i64 (D.n : Int), .bool D.down] 31)).alloc (.cells o.cells.toArray 37)).alloc (.cells #[.slice none 0 0, .int .i64 0, .int .i64 0, .int .i64 0, .bool false] 31)) = W := hW
  rw [hW'] at hB k0 ko kr
  clear hW hW'
  have HB := hide hB
  have H := hide (h'.out.below hB)
  have K0 := hide k0
  have KO := hide ko
  have KR := hide kr
  have hWs := hide kr.lt
  clear hB k0 ko kr
  obtain ⟨s0, s1, s2, s3, s4, fs0, fs1, fs2, fs3, fs4⟩ := K0.out.five
  obtain ⟨o0, o1, o2, o67, or_⟩ := OpV.at_ KO.out
  obtain ⟨m0, m1, m2, m3, m4, g0, g1, g2, g3, g4⟩ := KR.out.five
  have Or := hide or_
  clear or_
  rw [hk] at o0
  clear hk
  go_upto_region 30 with (fail)
  have hrc := R7.spoil_any H.out.ref Hl.out HL.out o.zone o.off o.s
  unfold Sec.agg at hrc
  have Hrc := hide hrc
  clear hrc
  go_wp2_with ((with_reducible refine wpList_load_mid ?g178 34 (.tmp 178) ?o178 (w.heap.size + 1) 3 ?x178 o.s.cs ?d178 ?r178 ?u178 ?f178 ?i178 ?_); (case g178 => exact rfl); (case o178 => exact rfl); (case x178 => exact rfl); (case r178 => exact Or.out); (case u178 => exact Try.underlying34); (case f178 => exact rfl); (case i178 => exact ZD.sizeSec o.s))
  refine Hrc.out.mono ?_
  rintro e w1 ⟨A2, c2, es2, rfl, hr1, hb1⟩
  have k0 := (hb1.block _ K0.out.lt).trans K0.out
  have ko := (hb1.block _ KO.out.lt).trans KO.out
  have kr := (hb1.block _ KR.out.lt).trans KR.out
  clear s0 s1 s2 s3 s4 fs0 fs1 fs2 fs3 fs4 o0 o1 o2 o67 m0 m1 m2 m3 m4 g0 g1 g2 g3 g4 K0 KO KR Or
  have K0 := hide (show Blk w1 w.heap.size 31 _ from k0)
  have KO := hide (show Blk w1 (w.heap.size + 1) 37 _ from ko)
  have KR := hide (show Blk w1 (w.heap.size + 1 + 1) 31 _ from kr)
  clear k0 ko kr
  have Hr1 := hide hr1
  have Hb1 := hide hb1
  clear hr1 hb1 Hrc
  obtain ⟨s0, s1, s2, s3, s4, fs0, fs1, fs2, fs3, fs4⟩ := K0.out.five
  obtain ⟨o0, o1, o2, o67, or_⟩ := OpV.at_ KO.out
  obtain ⟨m0, m1, m2, m3, m4, g0, g1, g2, g3, g4⟩ := KR.out.five
  have Or := hide or_
  clear or_
  go_upto_region 31 with (fail)
  have kx := Blk.new w1 31 #[.slice A2 (D.spoil o.zone o.off o.s).1.zs.length c2, .int .i64 (D.spoil o.zone o.off o.s).1.size, .int .i64 (D.spoil o.zone o.off o.s).1.op, .int .i64 ((D.spoil o.zone o.off o.s).1.n : Int), .bool (D.spoil o.zone o.off o.s).1.down]
  have hb2 : Below w1.heap.size w1 (w1.alloc (.cells #[.slice A2 (D.spoil o.zone o.off o.s).1.zs.length c2, .int .i64 (D.spoil o.zone o.off o.s).1.size, .int .i64 (D.spoil o.zone o.off o.s).1.op, .int .i64 ((D.spoil o.zone o.off o.s).1.n : Int), .bool (D.spoil o.zone o.off o.s).1.down] 31)) := (Below.refl _ w1).alloc (Nat.le_refl _) _
  generalize w1.alloc (.cells #[.slice A2 (D.spoil o.zone o.off o.s).1.zs.length c2, .int .i64 (D.spoil o.zone o.off o.s).1.size, .int .i64 (D.spoil o.zone o.off o.s).1.op, .int .i64 ((D.spoil o.zone o.off o.s).1.n : Int), .bool (D.spoil o.zone o.off o.s).1.down] 31) = w2 at kx hb2 ⊢
  have Hb2 := hide hb2
  have k0 := (Hb2.out.block _ K0.out.lt).trans K0.out
  have ko := (Hb2.out.block _ KO.out.lt).trans KO.out
  have kr := (Hb2.out.block _ KR.out.lt).trans KR.out
  clear s0 s1 s2 s3 s4 fs0 fs1 fs2 fs3 fs4 o0 o1 o2 o67 m0 m1 m2 m3 m4 g0 g1 g2 g3 g4 K0 KO KR Or
  have K0 := hide (show Blk w2 w.heap.size 31 _ from k0)
  have KO := hide (show Blk w2 (w.heap.size + 1) 37 _ from ko)
  have KR := hide (show Blk w2 (w.heap.size + 1 + 1) 31 _ from kr)
  clear k0 ko kr
  obtain ⟨bx, hbx⟩ : ∃ b, b = w1.heap.size := ⟨_, rfl⟩
  rw [← hbx] at kx ⊢
  have Hbx := hide hbx
  have KX := hide kx
  have hn1 : w.heap.size + 1 + 1 < bx := by have := hWs.out; have := Hb1.out.size; have := Hbx.out; omega
  have hdv := (((H.out.dev.below Hb1.out).below Hb2.out).drew)
  have hdc := DM.spoil_any hdv HL.out o.zone o.off o.s
  unfold Sec.agg at hdc
  have Hdc := hide hdc
  have hNF : Hid (∀ g, w.heap.size ≤ g → ¬ F g) := hide (fun g hg hf => by have := hlt.out _ hf; omega)
  clear hdc hdv kx hb2 hbx
  obtain ⟨x0, x1, x2, x3, x4, -⟩ := Blk.five (show Blk w2.drew bx 31 _ from KX.out)
  obtain ⟨o0, o1, o2, o67, or_⟩ := OpV.at_ (show Blk w2.drew (w.heap.size + 1) 37 o.cells.toArray from KO.out)
  have Or := hide or_
  clear or_
  have hnb : ¬ bx = w.heap.size + 1 + 1 := by omega
  have hnb2 : ¬ w.heap.size + 1 + 1 = bx := by omega
  have hu := Try.underlying34
  have hi := ZD.sizeSec o.s
  have h1s := o.s.one
  go_region_held3 (fun w' => w'.cell? ⟨bx, 0, none⟩ = some (.slice A2 (D.spoil o.zone o.off o.s).1.zs.length c2) ∧ w'.cell? ⟨bx, 1, none⟩ = some (.int .i64 (D.spoil o.zone o.off o.s).1.size) ∧ w'.cell? ⟨bx, 2, none⟩ = some (.int .i64 (D.spoil o.zone o.off o.s).1.op) ∧ w'.cell? ⟨bx, 3, none⟩ = some (.int .i64 ((D.spoil o.zone o.off o.s).1.n : Int)) ∧ w'.cell? ⟨bx, 4, none⟩ = some (.bool (D.spoil o.zone o.off o.s).1.down) ∧ w'.cell? ⟨w.heap.size + 1, 1, none⟩ = some (.int .i64 o.zone) ∧ w'.cell? ⟨w.heap.size + 1, 2, none⟩ = some (.int .i64 o.off) ∧ w'.rangeAt (w.heap.size + 1) 3 o.s.cs) (first | with_reducible exact ⟨x0, x1, x2, x3, x4, o1, o2, Or.out⟩ | with_reducible exact ⟨q0, q1, q2, q3, q4, p1, p2, Pr.out⟩ | ((with_reducible refine ⟨R7.set5_cell ?_ q0, R7.set5_cell ?_ q1, R7.set5_cell ?_ q2, R7.set5_cell ?_ q3, R7.set5_cell ?_ q4, R7.set5_cell ?_ p1, R7.set5_cell ?_ p2, R7.range_set5 ?_ Pr.out⟩) <;> (first | omega | (dsimp only; omega))) | go_keep)
    (first | (go_at_call 27; (with_reducible refine Hdc.out.mono ?_); rintro e w4 ⟨rfl, hd⟩; have Hd := hide hd; have KX4 := hide (DDid.box (show Blk w2.drew bx 31 _ from KX.out) hd (hNF.out _ (by omega))); have KO4 := hide (DDid.box (show Blk w2.drew (w.heap.size + 1) 37 _ from KO.out) hd (hNF.out _ (by omega))); have KR4 := hide (DDid.box (show Blk w2.drew (w.heap.size + 1 + 1) 31 _ from KR.out) hd (hNF.out _ (by omega))); clear hd; obtain ⟨q0, q1, q2, q3, q4, -⟩ := KX4.out.five; obtain ⟨p0, p1, p2, p67, pr⟩ := OpV.at_ KO4.out; have Pr := hide pr; clear pr; obtain ⟨m0, m1, m2, m3, m4, g0, g1, g2, g3, g4⟩ := KR4.out.five))
  go_wp2_with fail
  refine bodyPost_ret (v := .tuple #[aggD A2 c2 (D.spoil o.zone o.off o.s).1, .bool true]) ?_ rfl ?_
  · exact R7.results_dev2 (fn := Try.f18) (p := 6) (u := 7) (g := w.heap.size + 1 + 1) rfl _ _ _ _ _ _ _ rfl rfl (Blk.set5 KR4.out _ _ _ _ _)
  · rw [hplay.out]
    exact Stepped.refDev h'.out HB.out Hr1.out Hb1.out Hb2.out.drew Hd.out (by omega) hWs.out (Mods.set5 (fun k => k = w.heap.size + 1 + 1) _ _ _ _ _ _ _ rfl)

set_option maxRecDepth 100000 in
set_option maxHeartbeats 2000000 in
theorem step_crash (h : Two w d D F A c bs Fs A' c' es G) (hO : D.Ok m) (hm : m < 65000) (hl : D.zs.length < 65536) (o : OpV) (hk : o.kind = 6) :
    Calls Try.prog 18 #[.pointer (some ⟨d, 0, none⟩), .agg #[.slice A' D.zs.length c', .int .i64 D.size, .int .i64 D.op, .int .i64 (D.n : Int), .bool D.down], .agg o.cells.toArray] w (Stepped w F G d A c bs (D.play o)) := by
  have hplay : Hid (D.play o = ({ D with down := true } : Dv)) := hide (by simp [Dv.play, hk])
  have hlt := hide h.lt
  have Hm := hide hm
  have Hl := hide hl
  have hN : D.n < 65536 := by have := hO.n; omega
  have hL : ∀ x ∈ D.zs, x.L.length < 65536 := fun x hx => by have := (hO.zs x hx).1; omega
  have HN := hide hN
  have HL := hide hL
  have HO := hide hO
  have hB : Below w.heap.size w (((w.alloc (.cells #[.slice A' D.zs.length c', .int .i64 D.size, .int .i64 D.op, .int .i64 (D.n : Int), .bool D.down] 31)).alloc (.cells o.cells.toArray 37)).alloc (.cells #[.slice none 0 0, .int .i64 0, .int .i64 0, .int .i64 0, .bool false] 31)) := (((Below.refl _ w).alloc (Nat.le_refl _) _).alloc (by simp) _).alloc (by simp; omega) _
  have k0 := ((Blk.new w 31 #[.slice A' D.zs.length c', .int .i64 D.size, .int .i64 D.op, .int .i64 (D.n : Int), .bool D.down]).alloc (.cells o.cells.toArray 37)).alloc (.cells #[.slice none 0 0, .int .i64 0, .int .i64 0, .int .i64 0, .bool false] 31)
  have ko := (Blk.new (w.alloc (.cells #[.slice A' D.zs.length c', .int .i64 D.size, .int .i64 D.op, .int .i64 (D.n : Int), .bool D.down] 31)) 37 o.cells.toArray).alloc (.cells #[.slice none 0 0, .int .i64 0, .int .i64 0, .int .i64 0, .bool false] 31)
  have kr := Blk.new ((w.alloc (.cells #[.slice A' D.zs.length c', .int .i64 D.size, .int .i64 D.op, .int .i64 (D.n : Int), .bool D.down] 31)).alloc (.cells o.cells.toArray 37)) 31 #[.slice none 0 0, .int .i64 0, .int .i64 0, .int .i64 0, .bool false]
  rw [World.size_alloc] at ko
  rw [World.size_alloc, World.size_alloc] at kr
  have h' := hide h
  clear hN hL hO hl hm h
  go_enter Try.func18, Try.ntmps18
  go_upto_region 1 with (fail)
  generalize hW : World.alloc (World.alloc (World.alloc w _) _) _ = W
  have hW' : (((w.alloc (.cells #[.slice A' D.zs.length c', .int .i64 D.size, .int .i64 D.op, .int .i64 (D.n : Int), .bool D.down] 31)).alloc (.cells o.cells.toArray 37)).alloc (.cells #[.slice none 0 0, .int .i64 0, .int .i64 0, .int .i64 0, .bool false] 31)) = W := hW
  rw [hW'] at hB k0 ko kr
  clear hW hW'
  have HB := hide hB
  have H := hide (h'.out.below hB)
  have K0 := hide k0
  have KO := hide ko
  have KR := hide kr
  have hWs := hide kr.lt
  clear hB k0 ko kr
  obtain ⟨s0, s1, s2, s3, s4, fs0, fs1, fs2, fs3, fs4⟩ := K0.out.five
  obtain ⟨o0, o1, o2, o67, or_⟩ := OpV.at_ KO.out
  obtain ⟨m0, m1, m2, m3, m4, g0, g1, g2, g3, g4⟩ := KR.out.five
  have Or := hide or_
  clear or_
  rw [hk] at o0
  clear hk
  go_upto_region 20 with (fail)
  have hdc := DM.crash_any H.out.dev
  have Hdc := hide hdc
  clear hdc
  go_wp2_with fail
  refine Hdc.out.mono ?_
  rintro e w1 ⟨rfl, hd⟩
  have k0 := DDid.box K0.out hd (fun hf => by have := hlt.out _ hf; omega)
  have ko := DDid.box KO.out hd (fun hf => by have := hlt.out _ hf; omega)
  have kr := DDid.box KR.out hd (fun hf => by have := hlt.out _ hf; omega)
  clear s0 s1 s2 s3 s4 fs0 fs1 fs2 fs3 fs4 o0 o1 o2 o67 m0 m1 m2 m3 m4 g0 g1 g2 g3 g4 K0 KO KR Or
  have K0 := hide (show Blk w1 w.heap.size 31 _ from k0)
  have KO := hide (show Blk w1 (w.heap.size + 1) 37 _ from ko)
  have KR := hide (show Blk w1 (w.heap.size + 1 + 1) 31 _ from kr)
  clear k0 ko kr
  have href := H.out.refThen hd
  have Href := hide href
  have Hd := hide hd
  clear href hd Hdc
  obtain ⟨s0, s1, s2, s3, s4, fs0, fs1, fs2, fs3, fs4⟩ := K0.out.five
  obtain ⟨o0, o1, o2, o67, or_⟩ := OpV.at_ KO.out
  obtain ⟨m0, m1, m2, m3, m4, g0, g1, g2, g3, g4⟩ := KR.out.five
  have Or := hide or_
  clear or_
  go_upto_region 22 with (fail)
  have k0 := K0.out.set_ 4 (.bool true)
  have k0' : Hid (Blk (w1.setCell ⟨w.heap.size, 4, none⟩ (.bool true)) w.heap.size 31 #[.slice A' ({ D with down := true } : Dv).zs.length c', .int .i64 ({ D with down := true } : Dv).size, .int .i64 ({ D with down := true } : Dv).op, .int .i64 (({ D with down := true } : Dv).n : Int), .bool ({ D with down := true } : Dv).down]) := hide (by simpa using k0)
  have kr := KR.out.far (p := ⟨w.heap.size, 4, none⟩) (by simp; omega) (.bool true)
  have hm1 : Mods (fun k => w.heap.size ≤ k ∧ k < W.heap.size) w1 (w1.setCell ⟨w.heap.size, 4, none⟩ (.bool true)) := (Mods.refl _ w1).setCell (p := ⟨w.heap.size, 4, none⟩) (.inl ⟨Nat.le_refl _, by have := hWs.out; dsimp only; omega⟩) _
  have Hm1 := hide hm1
  have KR1 := hide kr
  clear k0 kr hm1 s0 s1 s2 s3 s4 fs0 fs1 fs2 fs3 fs4 o0 o1 o2 o67 m0 m1 m2 m3 m4 g0 g1 g2 g3 g4
  generalize w1.setCell ⟨w.heap.size, 4, none⟩ (.bool true) = w2 at k0' KR1 Hm1 ⊢
  obtain ⟨s0, s1, s2, s3, s4, -⟩ := k0'.out.five
  obtain ⟨m0, m1, m2, m3, m4, g0, g1, g2, g3, g4⟩ := KR1.out.five
  go_wp2_with fail
  refine bodyPost_ret (v := .tuple #[aggD A' c' ({ D with down := true } : Dv), .bool true]) ?_ rfl ?_
  · exact R7.results_dev2 (fn := Try.f18) (p := 6) (u := 7) (g := w.heap.size + 1 + 1) rfl _ _ _ _ _ _ _ rfl rfl (Blk.set5 KR1.out _ _ _ _ _)
  · rw [hplay.out]
    have hr : RefIs w1 ({ D with down := true } : Dv) A' c' es G := ⟨Href.out.zs, Href.out.own, Href.out.row, Href.out.inG⟩
    refine Stepped.devRef h'.out HB.out Hd.out (hr.mono (fun k hk => .inl hk)) (Below.refl _ w1) ?_
    have hmem : (fun k => w.heap.size ≤ k ∧ k < W.heap.size) (w.heap.size + 1 + 1) := ⟨by omega, hWs.out⟩
    exact Hm1.out.trans (Mods.set5 _ _ _ _ _ _ _ _ hmem) (fun _ _ h => h)
theorem DM.CameInts.mods {w w' : World} {K : Option Addr} {keep : List Int} {S : Nat → Prop} (h : DM.CameInts w K keep) (hm : Mods S w w') (hS : 0 < keep.length → ∀ b off, K = some ⟨b, off, none⟩ → ¬ S b) : DM.CameInts w' K keep := fun h0 => by
  obtain ⟨b, off, e, hb, hc⟩ := h h0
  exact ⟨b, off, e, Nat.lt_of_lt_of_le hb hm.size, fun i hi => (hm.cell (p := ⟨b, off + i, none⟩) hb (hS h0 b off e)).trans (hc i hi)⟩

set_option maxRecDepth 100000 in
set_option maxHeartbeats 2000000 in
theorem step_revive (h : Two w d D F A c bs Fs A' c' es G) (hO : D.Ok m) (hm : m < 65000) (hl : D.zs.length < 65536) (o : OpV) (hk : o.kind = 7) (hK : DM.CameInts w o.K o.keep) (hKF : 0 < o.keep.length → ∀ b off, o.K = some ⟨b, off, none⟩ → ¬ F b) (hkl : o.keep.length ≤ maxLen) :
    Calls Try.prog 18 #[.pointer (some ⟨d, 0, none⟩), .agg #[.slice A' D.zs.length c', .int .i64 D.size, .int .i64 D.op, .int .i64 (D.n : Int), .bool D.down], .agg o.cells.toArray] w (Stepped w F G d A c bs (D.play o)) := by
  have HK := hide hK
  have HKF := hide hKF
  have Hkl := hide hkl
  clear hK hKF hkl
  have hplay : Hid (D.play o = (D.revive o.keep)) := hide (by simp [Dv.play, hk])
  have hlt := hide h.lt
  have Hm := hide hm
  have Hl := hide hl
  have hN : D.n < 65536 := by have := hO.n; omega
  have hL : ∀ x ∈ D.zs, x.L.length < 65536 := fun x hx => by have := (hO.zs x hx).1; omega
  have HN := hide hN
  have HL := hide hL
  have HO := hide hO
  have hB : Below w.heap.size w (((w.alloc (.cells #[.slice A' D.zs.length c', .int .i64 D.size, .int .i64 D.op, .int .i64 (D.n : Int), .bool D.down] 31)).alloc (.cells o.cells.toArray 37)).alloc (.cells #[.slice none 0 0, .int .i64 0, .int .i64 0, .int .i64 0, .bool false] 31)) := (((Below.refl _ w).alloc (Nat.le_refl _) _).alloc (by simp) _).alloc (by simp; omega) _
  have k0 := ((Blk.new w 31 #[.slice A' D.zs.length c', .int .i64 D.size, .int .i64 D.op, .int .i64 (D.n : Int), .bool D.down]).alloc (.cells o.cells.toArray 37)).alloc (.cells #[.slice none 0 0, .int .i64 0, .int .i64 0, .int .i64 0, .bool false] 31)
  have ko := (Blk.new (w.alloc (.cells #[.slice A' D.zs.length c', .int .i64 D.size, .int .i64 D.op, .int .i64 (D.n : Int), .bool D.down] 31)) 37 o.cells.toArray).alloc (.cells #[.slice none 0 0, .int .i64 0, .int .i64 0, .int .i64 0, .bool false] 31)
  have kr := Blk.new ((w.alloc (.cells #[.slice A' D.zs.length c', .int .i64 D.size, .int .i64 D.op, .int .i64 (D.n : Int), .bool D.down] 31)).alloc (.cells o.cells.toArray 37)) 31 #[.slice none 0 0, .int .i64 0, .int .i64 0, .int .i64 0, .bool false]
  rw [World.size_alloc] at ko
  rw [World.size_alloc, World.size_alloc] at kr
  have h' := hide h
  clear hN hL hO hl hm h
  go_enter Try.func18, Try.ntmps18
  go_upto_region 1 with (fail)
  generalize hW : World.alloc (World.alloc (World.alloc w _) _) _ = W
  have hW' : (((w.alloc (.cells #[.slice A' D.zs.length c', .int .i64 D.size, .int .i64 D.op, .int .i64 (D.n : Int), .bool D.down] 31)).alloc (.cells o.cells.toArray 37)).alloc (.cells #[.slice none 0 0, .int .i64 0, .int .i64 0, .int .i64 0, .bool false] 31)) = W := hW
  rw [hW'] at hB k0 ko kr
  clear hW hW'
  have HB := hide hB
  have H := hide (h'.out.below hB)
  have K0 := hide k0
  have KO := hide ko
  have KR := hide kr
  have hWs := hide kr.lt
  clear hB k0 ko kr
  obtain ⟨s0, s1, s2, s3, s4, fs0, fs1, fs2, fs3, fs4⟩ := K0.out.five
  obtain ⟨o0, o1, o2, o67, or_⟩ := OpV.at_ KO.out
  obtain ⟨m0, m1, m2, m3, m4, g0, g1, g2, g3, g4⟩ := KR.out.five
  have Or := hide or_
  clear or_
  rw [hk] at o0
  clear hk
  go_upto_region 24 with (fail)
  have hK1 := HK.out.mods (Mods.of_below HB.out (fun _ => False)) (fun _ _ _ _ h => h)
  have hdc := DM.revive_any H.out.dev Hl.out (fun x hx => by have h1 := HO.out.zs x hx; have h2 := Hm.out; exact ⟨by omega, h1.2.1⟩) o.K o.kc o.keep hK1 HKF.out Hkl.out
  have Hdc := hide hdc
  have HK1 := hide hK1
  clear hdc hK1
  go_wp2_with fail
  refine Hdc.out.mono ?_
  rintro e w1 ⟨rfl, hd⟩
  have k0 := DDid.box K0.out hd (fun hf => by have := hlt.out _ hf; omega)
  have ko := DDid.box KO.out hd (fun hf => by have := hlt.out _ hf; omega)
  have kr := DDid.box KR.out hd (fun hf => by have := hlt.out _ hf; omega)
  clear s0 s1 s2 s3 s4 fs0 fs1 fs2 fs3 fs4 o0 o1 o2 o67 m0 m1 m2 m3 m4 g0 g1 g2 g3 g4 K0 KO KR Or
  have K0 := hide (show Blk w1 w.heap.size 31 _ from k0)
  have KO := hide (show Blk w1 (w.heap.size + 1) 37 _ from ko)
  have KR := hide (show Blk w1 (w.heap.size + 1 + 1) 31 _ from kr)
  clear k0 ko kr
  have href := H.out.refThen hd
  have Hd := hide hd
  have hK2 : DM.CameInts w1 o.K o.keep := by
    obtain ⟨_, _, _, hmd, _⟩ := hd
    exact HK1.out.mods hmd HKF.out
  have hrc := R7.revive_any href Hl.out (fun x hx => by have h1 := HO.out.zs x hx; have h2 := Hm.out; exact ⟨by omega, h1.2⟩) o.K o.kc o.keep hK2 Hkl.out
  have Hrc := hide hrc
  clear hrc href hd Hdc hK2
  obtain ⟨s0, s1, s2, s3, s4, fs0, fs1, fs2, fs3, fs4⟩ := K0.out.five
  obtain ⟨o0, o1, o2, o67, or_⟩ := OpV.at_ KO.out
  obtain ⟨m0, m1, m2, m3, m4, g0, g1, g2, g3, g4⟩ := KR.out.five
  have Or := hide or_
  clear or_
  go_wp2_with fail
  refine Hrc.out.mono ?_
  rintro e w2 ⟨A2, c2, es2, rfl, hr2, hb2⟩
  have k0 := (hb2.block _ K0.out.lt).trans K0.out
  have ko := (hb2.block _ KO.out.lt).trans KO.out
  have kr := (hb2.block _ KR.out.lt).trans KR.out
  clear s0 s1 s2 s3 s4 fs0 fs1 fs2 fs3 fs4 o0 o1 o2 o67 m0 m1 m2 m3 m4 g0 g1 g2 g3 g4 K0 KO KR Or
  have K0 := hide (show Blk w2 w.heap.size 31 _ from k0)
  have KO := hide (show Blk w2 (w.heap.size + 1) 37 _ from ko)
  have KR := hide (show Blk w2 (w.heap.size + 1 + 1) 31 _ from kr)
  clear k0 ko kr
  have Hr2 := hide hr2
  have Hb2 := hide hb2
  clear hr2 hb2 Hrc
  obtain ⟨s0, s1, s2, s3, s4, fs0, fs1, fs2, fs3, fs4⟩ := K0.out.five
  obtain ⟨o0, o1, o2, o67, or_⟩ := OpV.at_ KO.out
  obtain ⟨m0, m1, m2, m3, m4, g0, g1, g2, g3, g4⟩ := KR.out.five
  have Or := hide or_
  clear or_
  go_wp2_with fail
  refine bodyPost_ret (v := .tuple #[aggD A2 c2 (D.revive o.keep), .bool true]) ?_ rfl ?_
  · exact R7.results_dev2 (fn := Try.f18) (p := 6) (u := 7) (g := w.heap.size + 1 + 1) rfl _ _ _ _ _ _ _ rfl rfl (Blk.set5 KR.out _ _ _ _ _)
  · rw [hplay.out]
    refine Stepped.devRef h'.out HB.out Hd.out Hr2.out Hb2.out ?_
    have hmem : (fun k => w.heap.size ≤ k ∧ k < W.heap.size) (w.heap.size + 1 + 1) := ⟨by omega, hWs.out⟩
    exact Mods.set5 _ _ _ _ _ _ _ _ hmem

set_option maxRecDepth 100000 in
set_option maxHeartbeats 2000000 in
theorem step_other (h : Two w d D F A c bs Fs A' c' es G) (hO : D.Ok m) (hm : m < 65000) (hl : D.zs.length < 65536) (o : OpV) (hk : o.kind < 1 ∨ 9 < o.kind) :
    Calls Try.prog 18 #[.pointer (some ⟨d, 0, none⟩), .agg #[.slice A' D.zs.length c', .int .i64 D.size, .int .i64 D.op, .int .i64 (D.n : Int), .bool D.down], .agg o.cells.toArray] w (Stepped w F G d A c bs (D.play o)) := by
  have n1 : (o.kind == 1) = false := beq_eq_false_iff_ne.2 (by omega)
  have n2 : (o.kind == 2) = false := beq_eq_false_iff_ne.2 (by omega)
  have n3 : (o.kind == 3) = false := beq_eq_false_iff_ne.2 (by omega)
  have n4 : (o.kind == 4) = false := beq_eq_false_iff_ne.2 (by omega)
  have n5 : (o.kind == 5) = false := beq_eq_false_iff_ne.2 (by omega)
  have n6 : (o.kind == 6) = false := beq_eq_false_iff_ne.2 (by omega)
  have n7 : (o.kind == 7) = false := beq_eq_false_iff_ne.2 (by omega)
  have n8 : (o.kind == 8) = false := beq_eq_false_iff_ne.2 (by omega)
  have n9 : (o.kind == 9) = false := beq_eq_false_iff_ne.2 (by omega)
  have hplay : Hid (D.play o = D) := hide (by unfold Dv.play; simp only [show ¬ o.kind = 1 by omega, show ¬ o.kind = 2 by omega, show ¬ o.kind = 3 by omega, show ¬ o.kind = 4 by omega, show ¬ o.kind = 5 by omega, show ¬ o.kind = 6 by omega, show ¬ o.kind = 7 by omega, show ¬ o.kind = 8 by omega, show ¬ o.kind = 9 by omega, if_false])
  clear hk
  have hlt := hide h.lt
  have Hm := hide hm
  have Hl := hide hl
  have hN : D.n < 65536 := by have := hO.n; omega
  have hL : ∀ x ∈ D.zs, x.L.length < 65536 := fun x hx => by have := (hO.zs x hx).1; omega
  have HN := hide hN
  have HL := hide hL
  have HO := hide hO
  have hB : Below w.heap.size w (((w.alloc (.cells #[.slice A' D.zs.length c', .int .i64 D.size, .int .i64 D.op, .int .i64 (D.n : Int), .bool D.down] 31)).alloc (.cells o.cells.toArray 37)).alloc (.cells #[.slice none 0 0, .int .i64 0, .int .i64 0, .int .i64 0, .bool false] 31)) := (((Below.refl _ w).alloc (Nat.le_refl _) _).alloc (by simp) _).alloc (by simp; omega) _
  have k0 := ((Blk.new w 31 #[.slice A' D.zs.length c', .int .i64 D.size, .int .i64 D.op, .int .i64 (D.n : Int), .bool D.down]).alloc (.cells o.cells.toArray 37)).alloc (.cells #[.slice none 0 0, .int .i64 0, .int .i64 0, .int .i64 0, .bool false] 31)
  have ko := (Blk.new (w.alloc (.cells #[.slice A' D.zs.length c', .int .i64 D.size, .int .i64 D.op, .int .i64 (D.n : Int), .bool D.down] 31)) 37 o.cells.toArray).alloc (.cells #[.slice none 0 0, .int .i64 0, .int .i64 0, .int .i64 0, .bool false] 31)
  have kr := Blk.new ((w.alloc (.cells #[.slice A' D.zs.length c', .int .i64 D.size, .int .i64 D.op, .int .i64 (D.n : Int), .bool D.down] 31)).alloc (.cells o.cells.toArray 37)) 31 #[.slice none 0 0, .int .i64 0, .int .i64 0, .int .i64 0, .bool false]
  rw [World.size_alloc] at ko
  rw [World.size_alloc, World.size_alloc] at kr
  have h' := hide h
  clear hN hL hO hl hm h
  go_enter Try.func18, Try.ntmps18
  go_upto_region 1 with (fail)
  generalize hW : World.alloc (World.alloc (World.alloc w _) _) _ = W
  have hW' : (((w.alloc (.cells #[.slice A' D.zs.length c', .int .i64 D.size, .int .i64 D.op, .int .i64 (D.n : Int), .bool D.down] 31)).alloc (.cells o.cells.toArray 37)).alloc (.cells #[.slice none 0 0, .int .i64 0, .int .i64 0, .int .i64 0, .bool false] 31)) = W := hW
  rw [hW'] at hB k0 ko kr
  clear hW hW'
  have HB := hide hB
  have H := hide (h'.out.below hB)
  have K0 := hide k0
  have KO := hide ko
  have KR := hide kr
  have hWs := hide kr.lt
  clear hB k0 ko kr
  obtain ⟨s0, s1, s2, s3, s4, fs0, fs1, fs2, fs3, fs4⟩ := K0.out.five
  obtain ⟨o0, o1, o2, o67, or_⟩ := OpV.at_ KO.out
  obtain ⟨m0, m1, m2, m3, m4, g0, g1, g2, g3, g4⟩ := KR.out.five
  have Or := hide or_
  clear or_
  go_wp2_with fail
  refine bodyPost_ret (v := .tuple #[aggD A' c' D, .bool true]) ?_ rfl ?_
  · exact R7.results_dev2 (fn := Try.f18) (p := 6) (u := 7) (g := w.heap.size + 1 + 1) rfl _ _ _ _ _ _ _ rfl rfl (Blk.set5 KR.out _ _ _ _ _)
  · rw [hplay.out]
    exact Stepped.none_ h'.out (HB.out.trans ((Mods.set5 (fun k => k = w.heap.size + 1 + 1) _ _ _ _ _ _ _ rfl).below HB.out.size (fun k e => by omega)))

theorem step_any (h : Two w d D F A c bs Fs A' c' es G) (hO : D.Ok m) (hm : m < 65000) (hl : D.zs.length < 65536) (o : OpV) (hK : DM.CameInts w o.K o.keep) (hKF : 0 < o.keep.length → ∀ b off, o.K = some ⟨b, off, none⟩ → ¬ F b) (hkl : o.keep.length ≤ maxLen) :
    Calls Try.prog 18 #[.pointer (some ⟨d, 0, none⟩), .agg #[.slice A' D.zs.length c', .int .i64 D.size, .int .i64 D.op, .int .i64 (D.n : Int), .bool D.down], .agg o.cells.toArray] w (Stepped w F G d A c bs (D.play o)) := by
  by_cases h0 : o.kind < 1 ∨ 9 < o.kind
  · exact step_other h hO hm hl o h0
  · have hc : o.kind = 1 ∨ o.kind = 2 ∨ o.kind = 3 ∨ o.kind = 4 ∨ o.kind = 5 ∨ o.kind = 6 ∨ o.kind = 7 ∨ o.kind = 8 ∨ o.kind = 9 := by omega
    rcases hc with hk | hk | hk | hk | hk | hk | hk | hk | hk
    · exact step_append h hO hm hl o hk
    · exact step_read h hO hm hl o hk
    · exact step_reset h hO hm hl o hk
    · exact step_finish h hO hm hl o hk
    · exact step_flush h hO hm hl o hk
    · exact step_crash h hO hm hl o hk
    · exact step_revive h hO hm hl o hk hK hKF hkl
    · exact step_fail h hO hm hl o hk
    · exact step_spoil h hO hm hl o hk
end
end Go.Proofs.Ytdinbhanekpjoaa
