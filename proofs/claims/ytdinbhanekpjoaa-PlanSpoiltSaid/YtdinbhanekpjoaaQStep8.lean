/-
  step (revetmentlaw08): both, the drive and the document's, take one step and answer alike.
-/
import Derived.Test.YtdinbhanekpjoaaQAt8
namespace Go.Proofs.Ytdinbhanekpjoaa
open Go.RowKit
namespace S8
section
variable {w : World} {q d : Nat} {X : Dr} {F G : Nat → Prop} {A' : Option Addr} {c' : Nat} {es' : List RZ} {Ac' : Option Addr} {cc' : Nat} {Ah' : Option Addr} {ch' m : Nat}

set_option maxRecDepth 100000 in
set_option maxHeartbeats 4000000 in
theorem step_other (h : Two8 w q d X F G A' c' es' Ac' cc' Ah' ch') (hgd : X.Good m) (hm : m < 190) (hl : X.D.zs.length < 65536) (hsz : X.D.size ≤ 64) (p : OpP) (hp : p.Fits) (hk : p.o.kind < 1 ∨ 8 < p.o.kind) :
    Calls Try.prog 35 #[.pointer (some ⟨q, 0, none⟩), agg8 X A' c' Ac' cc' Ah' ch', .agg p.cells.toArray] w (Stepped8 w F G q d (X.play p)) := by
  unfold agg8
  rcases hk with hk | hk
  · have n1 : (p.o.kind == 1) = false := beq_eq_false_iff_ne.2 (by omega)
    have n2 : (p.o.kind == 2) = false := beq_eq_false_iff_ne.2 (by omega)
    have n3 : (p.o.kind == 3) = false := beq_eq_false_iff_ne.2 (by omega)
    have n4 : (p.o.kind == 4) = false := beq_eq_false_iff_ne.2 (by omega)
    have n5 : (p.o.kind == 5) = false := beq_eq_false_iff_ne.2 (by omega)
    have n6 : (p.o.kind == 6) = false := beq_eq_false_iff_ne.2 (by omega)
    have n7 : (p.o.kind == 7) = false := beq_eq_false_iff_ne.2 (by omega)
    have n8 : (p.o.kind == 8) = false := beq_eq_false_iff_ne.2 (by omega)
    have hplay : Hid (X.play p = X) := hide (by unfold Dr.play; simp only [show ¬ p.o.kind = 1 by omega, show ¬ p.o.kind = 2 by omega, show ¬ p.o.kind = 3 by omega, show ¬ p.o.kind = 4 by omega, show ¬ p.o.kind = 5 by omega, show ¬ p.o.kind = 6 by omega, show ¬ p.o.kind = 7 by omega, show ¬ p.o.kind = 8 by omega, if_false])
    have d0 : decide (1 ≤ p.o.kind) = false := decide_eq_false (by omega)
    clear hk
    have Hst := hide (fun Wn hW => At8.start h p (Wn := Wn) hW)
    have Hgd := hide hgd
    have Hm := hide hm
    have Hl := hide hl
    have Hsz := hide hsz
    have Hp := hide hp
    clear h hgd hm hl hsz hp
    go_enter Try.func35, Try.ntmps35
    go_upto_region 1 with (fail)
    generalize hW : World.alloc (World.alloc (World.alloc w _) _) _ = W
    have hA := Hst.out W hW
    have HA := hide hA
    clear hW Hst hA
    obtain ⟨a0, a1, a2, a3, a4, a5, a6, f0, f1, f2, f3, f4, f5, f6⟩ := HA.out.b0.seven
    obtain ⟨o0, o1, o2, o67, or_, oe_⟩ := OpP.at_ HA.out.b1
    obtain ⟨m0, m1, m2, m3, m4, m5, m6, g0, g1, g2, g3, g4, g5, g6⟩ := HA.out.b2.seven
    have Or := hide or_
    have Oe := hide oe_
    clear or_ oe_
    go_wp2_with fail
    refine bodyPost_ret (v := .tuple #[.agg #[.slice A' X.D.zs.length c', .int .i64 X.D.size, .int .i64 X.D.op, .int .i64 (X.D.n : Int), .bool X.D.down, .slice Ac' X.coming.length cc', .slice Ah' X.happened.length ch'], .bool true]) ?_ rfl ?_
    · exact R7.results_agg2 (cs := #[.slice A' X.D.zs.length c', .int .i64 X.D.size, .int .i64 X.D.op, .int .i64 (X.D.n : Int), .bool X.D.down, .slice Ac' X.coming.length cc', .slice Ah' X.happened.length ch']) (fn := Try.f35) (p := 6) (u := 7) (g := w.heap.size + 1 + 1) (t := 62) rfl Try.underlying62 rfl sizeD8 _ _ rfl rfl (HA.out.b2.put7 _ _ _ _ _ _ _)
    · rw [hplay.out]
      exact (HA.out.put2 _ _ _ _ _ _ _).done (Alike.refl _) rfl
  · have n1 : (p.o.kind == 1) = false := beq_eq_false_iff_ne.2 (by omega)
    have n2 : (p.o.kind == 2) = false := beq_eq_false_iff_ne.2 (by omega)
    have n3 : (p.o.kind == 3) = false := beq_eq_false_iff_ne.2 (by omega)
    have n4 : (p.o.kind == 4) = false := beq_eq_false_iff_ne.2 (by omega)
    have n5 : (p.o.kind == 5) = false := beq_eq_false_iff_ne.2 (by omega)
    have n6 : (p.o.kind == 6) = false := beq_eq_false_iff_ne.2 (by omega)
    have n7 : (p.o.kind == 7) = false := beq_eq_false_iff_ne.2 (by omega)
    have n8 : (p.o.kind == 8) = false := beq_eq_false_iff_ne.2 (by omega)
    have hplay : Hid (X.play p = X) := hide (by unfold Dr.play; simp only [show ¬ p.o.kind = 1 by omega, show ¬ p.o.kind = 2 by omega, show ¬ p.o.kind = 3 by omega, show ¬ p.o.kind = 4 by omega, show ¬ p.o.kind = 5 by omega, show ¬ p.o.kind = 6 by omega, show ¬ p.o.kind = 7 by omega, show ¬ p.o.kind = 8 by omega, if_false])
    have d0 : decide (1 ≤ p.o.kind) = true := decide_eq_true (by omega)
    have d1 : decide (p.o.kind ≤ 5) = false := decide_eq_false (by omega)
    clear hk
    have Hst := hide (fun Wn hW => At8.start h p (Wn := Wn) hW)
    have Hgd := hide hgd
    have Hm := hide hm
    have Hl := hide hl
    have Hsz := hide hsz
    have Hp := hide hp
    clear h hgd hm hl hsz hp
    go_enter Try.func35, Try.ntmps35
    go_upto_region 1 with (fail)
    generalize hW : World.alloc (World.alloc (World.alloc w _) _) _ = W
    have hA := Hst.out W hW
    have HA := hide hA
    clear hW Hst hA
    obtain ⟨a0, a1, a2, a3, a4, a5, a6, f0, f1, f2, f3, f4, f5, f6⟩ := HA.out.b0.seven
    obtain ⟨o0, o1, o2, o67, or_, oe_⟩ := OpP.at_ HA.out.b1
    obtain ⟨m0, m1, m2, m3, m4, m5, m6, g0, g1, g2, g3, g4, g5, g6⟩ := HA.out.b2.seven
    have Or := hide or_
    have Oe := hide oe_
    clear or_ oe_
    go_wp2_with fail
    refine bodyPost_ret (v := .tuple #[.agg #[.slice A' X.D.zs.length c', .int .i64 X.D.size, .int .i64 X.D.op, .int .i64 (X.D.n : Int), .bool X.D.down, .slice Ac' X.coming.length cc', .slice Ah' X.happened.length ch'], .bool true]) ?_ rfl ?_
    · exact R7.results_agg2 (cs := #[.slice A' X.D.zs.length c', .int .i64 X.D.size, .int .i64 X.D.op, .int .i64 (X.D.n : Int), .bool X.D.down, .slice Ac' X.coming.length cc', .slice Ah' X.happened.length ch']) (fn := Try.f35) (p := 6) (u := 7) (g := w.heap.size + 1 + 1) (t := 62) rfl Try.underlying62 rfl sizeD8 _ _ rfl rfl (HA.out.b2.put7 _ _ _ _ _ _ _)
    · rw [hplay.out]
      exact (HA.out.put2 _ _ _ _ _ _ _).done (Alike.refl _) rfl

set_option maxRecDepth 100000 in
set_option maxHeartbeats 4000000 in
theorem step_append (h : Two8 w q d X F G A' c' es' Ac' cc' Ah' ch') (hgd : X.Good m) (hm : m < 190) (hl : X.D.zs.length < 65536) (hsz : X.D.size ≤ 64) (p : OpP) (hp : p.Fits) (hk : p.o.kind = 1) :
    Calls Try.prog 35 #[.pointer (some ⟨q, 0, none⟩), agg8 X A' c' Ac' cc' Ah' ch', .agg p.cells.toArray] w (Stepped8 w F G q d (X.play p)) := by
  unfold agg8
  have hplay : Hid (X.play p = (X.append p.o.zone p.o.s).1) := hide (by simp [Dr.play, hk])
  have Hst := hide (fun Wn hW => At8.start h p (Wn := Wn) hW)
  have Hgd := hide hgd
  have Hm := hide hm
  have Hl := hide hl
  have Hsz := hide hsz
  have Hp := hide hp
  have Hk := hide hk
  clear h hgd hm hl hsz hp hk
  go_enter Try.func35, Try.ntmps35
  go_upto_region 1 with (fail)
  generalize hW : World.alloc (World.alloc (World.alloc w _) _) _ = W
  have hA := Hst.out W hW
  have HA := hide hA
  clear hW Hst hA
  obtain ⟨a0, a1, a2, a3, a4, a5, a6, f0, f1, f2, f3, f4, f5, f6⟩ := HA.out.b0.seven
  obtain ⟨o0, o1, o2, o67, or_, oe_⟩ := OpP.at_ HA.out.b1
  obtain ⟨m0, m1, m2, m3, m4, m5, m6, g0, g1, g2, g3, g4, g5, g6⟩ := HA.out.b2.seven
  have Or := hide or_
  have Oe := hide oe_
  clear or_ oe_
  rw [Hk.out] at o0
  go_upto_region 2 with (fail)
  have HGX := Hgd.out
  obtain ⟨hyg, hyl, hyn⟩ := HGX.begin (by have := Hm.out; omega) p.o.zone
  obtain ⟨Y, hY⟩ : ∃ Y, Y = (X.begin_ p.o.zone) := ⟨_, rfl⟩
  rw [← hY] at hyg hyl hyn
  have hdue := HA.out.ref (Y2 := Y) (fun G1 hr => R8.due_any hr (HGX.bd (by have := Hm.out; omega)) Hl.out p.o.zone false Y (by rw [hY]; rfl))
  unfold agg8 at hdue
  have Hdue := hide hdue
  have HY := hide hY
  have Hyg := hide hyg
  have Hyl := hide hyl
  clear hdue HGX hyg hyl hyn hY
  go_wp2_with fail
  refine Hdue.out.mono ?_
  rintro en w1 ⟨A2, c2, es2, Ac2, cc2, Ah2, ch2, rfl, h1⟩
  clear a0 a1 a2 a3 a4 a5 a6 f0 f1 f2 f3 f4 f5 f6 o0 o1 o2 o67 m0 m1 m2 m3 m4 m5 m6 g0 g1 g2 g3 g4 g5 g6 Or Oe Hdue
  have Hs1 := hide (fun W (hW : put7 w1 w.heap.size (.slice A2 Y.D.zs.length c2) (.int .i64 Y.D.size) (.int .i64 Y.D.op) (.int .i64 (Y.D.n : Int)) (.bool Y.D.down) (.slice Ac2 Y.coming.length cc2) (.slice Ah2 Y.happened.length ch2) = W) => (h1.put0 (.slice A2 Y.D.zs.length c2) (.int .i64 Y.D.size) (.int .i64 Y.D.op) (.int .i64 (Y.D.n : Int)) (.bool Y.D.down) (.slice Ac2 Y.coming.length cc2) (.slice Ah2 Y.happened.length ch2)).cast hW)
  have H1 := hide h1
  clear h1 HA
  obtain ⟨a0, a1, a2, a3, a4, a5, a6, f0, f1, f2, f3, f4, f5, f6⟩ := H1.out.b0.seven
  obtain ⟨o0, o1, o2, o67, or_, oe_⟩ := OpP.at_ H1.out.b1
  obtain ⟨m0, m1, m2, m3, m4, m5, m6, g0, g1, g2, g3, g4, g5, g6⟩ := H1.out.b2.seven
  have Or := hide or_
  have Oe := hide oe_
  clear or_ oe_
  rw [Hk.out] at o0
  go_upto_region 3 with (fail)
  clear a0 a1 a2 a3 a4 a5 a6 f0 f1 f2 f3 f4 f5 f6 o0 o1 o2 o67 m0 m1 m2 m3 m4 m5 m6 g0 g1 g2 g3 g4 g5 g6 Or Oe
  generalize hW : World.setCell (World.setCell (World.setCell (World.setCell (World.setCell (World.setCell (World.setCell _ _ _) _ _) _ _) _ _) _ _) _ _) _ _ = w2
  have hB := Hs1.out w2 hW
  have HB := hide hB
  clear hW hB Hs1 H1
  obtain ⟨a0, a1, a2, a3, a4, a5, a6, f0, f1, f2, f3, f4, f5, f6⟩ := HB.out.b0.seven
  obtain ⟨o0, o1, o2, o67, or_, oe_⟩ := OpP.at_ HB.out.b1
  obtain ⟨m0, m1, m2, m3, m4, m5, m6, g0, g1, g2, g3, g4, g5, g6⟩ := HB.out.b2.seven
  have Or := hide or_
  have Oe := hide oe_
  clear or_ oe_
  rw [Hk.out] at o0
  go_upto_region 6 with (fail)
  have HN : Hid (Y.D.n < 65536) := hide (by have := Hyg.out.ok.n; have := Hm.out; omega)
  have HL : Hid (∀ x ∈ Y.D.zs, x.L.length < 65536) := hide (fun x hx => by have := (Hyg.out.ok.zs x hx).1; have := Hm.out; omega)
  have HlY : Hid (Y.D.zs.length < 65536) := hide (by have := Hyl.out.len; have := Hl.out; omega)
  have hdc := HB.out.drv (fun F1 FD A c bs Fs mb n Ac cc Ah ch h1 _ => DV.append_any h1 (Hgd.out.bd (by have := Hm.out; omega)) Hgd.out.ok (by have := Hm.out; omega) Hl.out p.o.zone p.o.s Hp.out.zone)
  rw [show (X.append p.o.zone p.o.s).2 = (Y.D.append p.o.zone p.o.s).2 by rw [HY.out]; rfl] at hdc
  unfold Sec.agg at hdc
  have Hdc := hide hdc
  clear hdc
  go_wp2_with ((with_reducible refine wpList_load_mid ?g38 34 (.tmp 38) ?o38 (w.heap.size + 1) 3 ?x38 p.o.s.cs ?d38 ?r38 ?u38 ?f38 ?i38 ?_); (case g38 => exact rfl); (case o38 => exact rfl); (case x38 => exact rfl); (case r38 => exact Or.out); (case u38 => exact Try.underlying34); (case f38 => exact rfl); (case i38 => exact ZD.sizeSec _))
  refine Hdc.out.mono ?_
  rintro en w3 ⟨rfl, h3⟩
  clear a0 a1 a2 a3 a4 a5 a6 f0 f1 f2 f3 f4 f5 f6 o0 o1 o2 o67 m0 m1 m2 m3 m4 m5 m6 g0 g1 g2 g3 g4 g5 g6 Or Oe Hdc HB
  have H3 := hide h3
  clear h3
  have hrc := H3.out.gave3 (fun G1 hr => R7.append_any hr HN.out HlY.out HL.out (fun x hx => (Hyg.out.ok.zs x hx).2.2.2) p.o.zone p.o.s)
  unfold Sec.agg at hrc
  have Hrc := hide hrc
  clear hrc
  obtain ⟨a0, a1, a2, a3, a4, a5, a6, f0, f1, f2, f3, f4, f5, f6⟩ := H3.out.b0.seven
  obtain ⟨o0, o1, o2, o67, or_, oe_⟩ := OpP.at_ H3.out.b1
  obtain ⟨m0, m1, m2, m3, m4, m5, m6, g0, g1, g2, g3, g4, g5, g6⟩ := H3.out.b2.seven
  have Or := hide or_
  have Oe := hide oe_
  clear or_ oe_
  rw [Hk.out] at o0
  go_wp2_with ((with_reducible refine wpList_load_mid ?g48 34 (.tmp 48) ?o48 (w.heap.size + 1) 3 ?x48 p.o.s.cs ?d48 ?r48 ?u48 ?f48 ?i48 ?_); (case g48 => exact rfl); (case o48 => exact rfl); (case x48 => exact rfl); (case r48 => exact Or.out); (case u48 => exact Try.underlying34); (case f48 => exact rfl); (case i48 => exact ZD.sizeSec _))
  refine Hrc.out.mono ?_
  rintro en w4 ⟨A4, c4, es4, rfl, h4⟩
  clear a0 a1 a2 a3 a4 a5 a6 f0 f1 f2 f3 f4 f5 f6 o0 o1 o2 o67 m0 m1 m2 m3 m4 m5 m6 g0 g1 g2 g3 g4 g5 g6 Or Oe Hrc H3
  unfold aggV
  have Hs4 := hide (fun W hW => (h4.put05 (.slice A4 (Y.D.append p.o.zone p.o.s).1.zs.length c4) (.int .i64 (Y.D.append p.o.zone p.o.s).1.size) (.int .i64 (Y.D.append p.o.zone p.o.s).1.op) (.int .i64 ((Y.D.append p.o.zone p.o.s).1.n : Int)) (.bool (Y.D.append p.o.zone p.o.s).1.down)).cast (W2 := W) hW)
  have H4 := hide h4
  clear h4
  obtain ⟨a0, a1, a2, a3, a4, a5, a6, f0, f1, f2, f3, f4, f5, f6⟩ := H4.out.b0.seven
  obtain ⟨o0, o1, o2, o67, or_, oe_⟩ := OpP.at_ H4.out.b1
  obtain ⟨m0, m1, m2, m3, m4, m5, m6, g0, g1, g2, g3, g4, g5, g6⟩ := H4.out.b2.seven
  have Or := hide or_
  have Oe := hide oe_
  clear or_ oe_
  rw [Hk.out] at o0
  go_upto_region 9 with (fail)
  clear a0 a1 a2 a3 a4 a5 a6 f0 f1 f2 f3 f4 f5 f6 o0 o1 o2 o67 m0 m1 m2 m3 m4 m5 m6 g0 g1 g2 g3 g4 g5 g6 Or Oe
  generalize hW : World.setCell (World.setCell (World.setCell (World.setCell (World.setCell _ _ _) _ _) _ _) _ _) _ _ = w5
  have hC := Hs4.out w5 hW
  have HC := hide hC
  clear hW hC Hs4 H4
  obtain ⟨a0, a1, a2, a3, a4, a5, a6, f0, f1, f2, f3, f4, f5, f6⟩ := HC.out.b0.seven
  obtain ⟨o0, o1, o2, o67, or_, oe_⟩ := OpP.at_ HC.out.b1
  obtain ⟨m0, m1, m2, m3, m4, m5, m6, g0, g1, g2, g3, g4, g5, g6⟩ := HC.out.b2.seven
  have Or := hide or_
  have Oe := hide oe_
  clear or_ oe_
  rw [Hk.out] at o0
  go_wp2_with fail
  refine bodyPost_ret (v := .tuple #[.agg #[.slice A4 (Y.D.append p.o.zone p.o.s).1.zs.length c4, .int .i64 (Y.D.append p.o.zone p.o.s).1.size, .int .i64 (Y.D.append p.o.zone p.o.s).1.op, .int .i64 ((Y.D.append p.o.zone p.o.s).1.n : Int), .bool (Y.D.append p.o.zone p.o.s).1.down, .slice Ac2 Y.coming.length cc2, .slice Ah2 Y.happened.length ch2], .bool true]) ?_ rfl ?_
  · exact R7.results_agg2 (cs := #[.slice A4 (Y.D.append p.o.zone p.o.s).1.zs.length c4, .int .i64 (Y.D.append p.o.zone p.o.s).1.size, .int .i64 (Y.D.append p.o.zone p.o.s).1.op, .int .i64 ((Y.D.append p.o.zone p.o.s).1.n : Int), .bool (Y.D.append p.o.zone p.o.s).1.down, .slice Ac2 Y.coming.length cc2, .slice Ah2 Y.happened.length ch2]) (fn := Try.f35) (p := 6) (u := 7) (g := w.heap.size + 1 + 1) (t := 62) rfl Try.underlying62 rfl sizeD8 _ _ rfl rfl (HC.out.b2.put7 _ _ _ _ _ _ _)
  · rw [hplay.out]
    exact (HC.out.put2 _ _ _ _ _ _ _).done (by rw [HY.out]; exact ⟨rfl, rfl, rfl⟩) rfl

set_option maxRecDepth 100000 in
set_option maxHeartbeats 4000000 in
theorem step_reset (h : Two8 w q d X F G A' c' es' Ac' cc' Ah' ch') (hgd : X.Good m) (hm : m < 190) (hl : X.D.zs.length < 65536) (hsz : X.D.size ≤ 64) (p : OpP) (hp : p.Fits) (hk : p.o.kind = 3) :
    Calls Try.prog 35 #[.pointer (some ⟨q, 0, none⟩), agg8 X A' c' Ac' cc' Ah' ch', .agg p.cells.toArray] w (Stepped8 w F G q d (X.play p)) := by
  unfold agg8
  have hplay : Hid (X.play p = (X.reset p.o.zone).1) := hide (by simp [Dr.play, hk])
  have Hst := hide (fun Wn hW => At8.start h p (Wn := Wn) hW)
  have Hgd := hide hgd
  have Hm := hide hm
  have Hl := hide hl
  have Hsz := hide hsz
  have Hp := hide hp
  have Hk := hide hk
  clear h hgd hm hl hsz hp hk
  go_enter Try.func35, Try.ntmps35
  go_upto_region 1 with (fail)
  generalize hW : World.alloc (World.alloc (World.alloc w _) _) _ = W
  have hA := Hst.out W hW
  have HA := hide hA
  clear hW Hst hA
  obtain ⟨a0, a1, a2, a3, a4, a5, a6, f0, f1, f2, f3, f4, f5, f6⟩ := HA.out.b0.seven
  obtain ⟨o0, o1, o2, o67, or_, oe_⟩ := OpP.at_ HA.out.b1
  obtain ⟨m0, m1, m2, m3, m4, m5, m6, g0, g1, g2, g3, g4, g5, g6⟩ := HA.out.b2.seven
  have Or := hide or_
  have Oe := hide oe_
  clear or_ oe_
  rw [Hk.out] at o0
  go_upto_region 2 with (fail)
  have HGX := Hgd.out
  obtain ⟨hyg, hyl, hyn⟩ := HGX.begin (by have := Hm.out; omega) p.o.zone
  obtain ⟨Y, hY⟩ : ∃ Y, Y = (X.begin_ p.o.zone) := ⟨_, rfl⟩
  rw [← hY] at hyg hyl hyn
  have hdue := HA.out.ref (Y2 := Y) (fun G1 hr => R8.due_any hr (HGX.bd (by have := Hm.out; omega)) Hl.out p.o.zone false Y (by rw [hY]; rfl))
  unfold agg8 at hdue
  have Hdue := hide hdue
  have HY := hide hY
  have Hyg := hide hyg
  have Hyl := hide hyl
  clear hdue HGX hyg hyl hyn hY
  go_wp2_with fail
  refine Hdue.out.mono ?_
  rintro en w1 ⟨A2, c2, es2, Ac2, cc2, Ah2, ch2, rfl, h1⟩
  clear a0 a1 a2 a3 a4 a5 a6 f0 f1 f2 f3 f4 f5 f6 o0 o1 o2 o67 m0 m1 m2 m3 m4 m5 m6 g0 g1 g2 g3 g4 g5 g6 Or Oe Hdue
  have Hs1 := hide (fun W (hW : put7 w1 w.heap.size (.slice A2 Y.D.zs.length c2) (.int .i64 Y.D.size) (.int .i64 Y.D.op) (.int .i64 (Y.D.n : Int)) (.bool Y.D.down) (.slice Ac2 Y.coming.length cc2) (.slice Ah2 Y.happened.length ch2) = W) => (h1.put0 (.slice A2 Y.D.zs.length c2) (.int .i64 Y.D.size) (.int .i64 Y.D.op) (.int .i64 (Y.D.n : Int)) (.bool Y.D.down) (.slice Ac2 Y.coming.length cc2) (.slice Ah2 Y.happened.length ch2)).cast hW)
  have H1 := hide h1
  clear h1 HA
  obtain ⟨a0, a1, a2, a3, a4, a5, a6, f0, f1, f2, f3, f4, f5, f6⟩ := H1.out.b0.seven
  obtain ⟨o0, o1, o2, o67, or_, oe_⟩ := OpP.at_ H1.out.b1
  obtain ⟨m0, m1, m2, m3, m4, m5, m6, g0, g1, g2, g3, g4, g5, g6⟩ := H1.out.b2.seven
  have Or := hide or_
  have Oe := hide oe_
  clear or_ oe_
  rw [Hk.out] at o0
  go_upto_region 3 with (fail)
  clear a0 a1 a2 a3 a4 a5 a6 f0 f1 f2 f3 f4 f5 f6 o0 o1 o2 o67 m0 m1 m2 m3 m4 m5 m6 g0 g1 g2 g3 g4 g5 g6 Or Oe
  generalize hW : World.setCell (World.setCell (World.setCell (World.setCell (World.setCell (World.setCell (World.setCell _ _ _) _ _) _ _) _ _) _ _) _ _) _ _ = w2
  have hB := Hs1.out w2 hW
  have HB := hide hB
  clear hW hB Hs1 H1
  obtain ⟨a0, a1, a2, a3, a4, a5, a6, f0, f1, f2, f3, f4, f5, f6⟩ := HB.out.b0.seven
  obtain ⟨o0, o1, o2, o67, or_, oe_⟩ := OpP.at_ HB.out.b1
  obtain ⟨m0, m1, m2, m3, m4, m5, m6, g0, g1, g2, g3, g4, g5, g6⟩ := HB.out.b2.seven
  have Or := hide or_
  have Oe := hide oe_
  clear or_ oe_
  rw [Hk.out] at o0
  go_upto_region 16 with (fail)
  have HN : Hid (Y.D.n < 65536) := hide (by have := Hyg.out.ok.n; have := Hm.out; omega)
  have HL : Hid (∀ x ∈ Y.D.zs, x.L.length < 65536) := hide (fun x hx => by have := (Hyg.out.ok.zs x hx).1; have := Hm.out; omega)
  have HlY : Hid (Y.D.zs.length < 65536) := hide (by have := Hyl.out.len; have := Hl.out; omega)
  have hrc := HB.out.gave (fun G1 hr => R7.reset_any hr HN.out HlY.out p.o.zone)
  have Hrc := hide hrc
  clear hrc
  go_wp2_with fail
  refine Hrc.out.mono ?_
  rintro en w4 ⟨A4, c4, es4, rfl, h4⟩
  clear a0 a1 a2 a3 a4 a5 a6 f0 f1 f2 f3 f4 f5 f6 o0 o1 o2 o67 m0 m1 m2 m3 m4 m5 m6 g0 g1 g2 g3 g4 g5 g6 Or Oe Hrc HB
  unfold aggV
  have Hs4 := hide (fun W hW => (h4.put05 (.slice A4 (Y.D.reset p.o.zone).1.zs.length c4) (.int .i64 (Y.D.reset p.o.zone).1.size) (.int .i64 (Y.D.reset p.o.zone).1.op) (.int .i64 ((Y.D.reset p.o.zone).1.n : Int)) (.bool (Y.D.reset p.o.zone).1.down)).cast (W2 := W) hW)
  have H4 := hide h4
  clear h4
  obtain ⟨a0, a1, a2, a3, a4, a5, a6, f0, f1, f2, f3, f4, f5, f6⟩ := H4.out.b0.seven
  obtain ⟨o0, o1, o2, o67, or_, oe_⟩ := OpP.at_ H4.out.b1
  obtain ⟨m0, m1, m2, m3, m4, m5, m6, g0, g1, g2, g3, g4, g5, g6⟩ := H4.out.b2.seven
  have Or := hide or_
  have Oe := hide oe_
  clear or_ oe_
  rw [Hk.out] at o0
  go_upto_region 17 with (fail)
  clear a0 a1 a2 a3 a4 a5 a6 f0 f1 f2 f3 f4 f5 f6 o0 o1 o2 o67 m0 m1 m2 m3 m4 m5 m6 g0 g1 g2 g3 g4 g5 g6 Or Oe
  generalize hW : World.setCell (World.setCell (World.setCell (World.setCell (World.setCell _ _ _) _ _) _ _) _ _) _ _ = w5
  have hC := Hs4.out w5 hW
  have HCd := hide hC.drew
  clear hW hC Hs4 H4
  have hdc := HCd.out.drv (fun F1 FD A c bs Fs mb n Ac cc Ah ch h1 _ => DV.reset_any h1 (Hgd.out.bd (by have := Hm.out; omega)) Hgd.out.ok (by have := Hm.out; omega) Hl.out p.o.zone Hp.out.zone Hsz.out)
  rw [show (X.reset p.o.zone).2 = (Y.D.reset p.o.zone).2 by rw [HY.out]; rfl] at hdc
  have Hdc := hide hdc
  clear hdc
  refine wp_region_held_drew (S := fun w' => Seen w' w.heap.size (.slice A4 (Y.D.reset p.o.zone).1.zs.length c4) (.int .i64 (Y.D.reset p.o.zone).1.size) (.int .i64 (Y.D.reset p.o.zone).1.op) (.int .i64 ((Y.D.reset p.o.zone).1.n : Int)) (.bool (Y.D.reset p.o.zone).1.down) (.slice Ac2 Y.coming.length cc2) (.slice Ah2 Y.happened.length ch2) p) (by kernel_rfl) HCd.out.seen (fun hHeld => ?_)
  refine wpAnyH_take (i := 0) (oi := ⟨_, _, _, _, _, _⟩) (v := ?_) rfl (by kernel_rfl) (by kernel_rfl) (by kernel_rfl) (fun _ _ _ h => h) (Or.inl ⟨by rfl, ?_⟩) hHeld ?_
  rotate_left
  · intro w' hS
    obtain ⟨x0, x1, x2, x3, x4, x5, x6, xz, -⟩ := hS
    go_simp
    first | done | with_reducible rfl
  try simp only [Act.put, List.setIfInBounds_toArray, List.set_cons_zero, List.set_cons_succ]
  refine wpAnyH_take (i := 1) (oi := ⟨_, _, _, _, _, _⟩) (v := ?_) rfl (by kernel_rfl) (by kernel_rfl) (by kernel_rfl) (fun _ _ _ h => h) (Or.inl ⟨by rfl, ?_⟩) hHeld ?_
  rotate_left
  · intro w' hS
    obtain ⟨x0, x1, x2, x3, x4, x5, x6, xz, -⟩ := hS
    go_simp
    first | done | with_reducible rfl
  try simp only [Act.put, List.setIfInBounds_toArray, List.set_cons_zero, List.set_cons_succ]
  refine wpAnyH_take (i := 2) (oi := ⟨_, _, _, _, _, _⟩) (v := ?_) rfl (by kernel_rfl) (by kernel_rfl) (by kernel_rfl) (fun _ _ _ h => h) (Or.inl ⟨by rfl, ?_⟩) hHeld ?_
  rotate_left
  · intro w' hS
    obtain ⟨x0, x1, x2, x3, x4, x5, x6, xz, -⟩ := hS
    go_simp
    first | done | with_reducible rfl
  try simp only [Act.put, List.setIfInBounds_toArray, List.set_cons_zero, List.set_cons_succ]
  refine wpAnyH_take (i := 3) (oi := ⟨_, _, _, _, _, _⟩) (v := ?_) rfl (by kernel_rfl) (by kernel_rfl) (by kernel_rfl) (fun _ _ _ h => h) (Or.inl ⟨by rfl, ?_⟩) hHeld ?_
  rotate_left
  · intro w' hS
    obtain ⟨x0, x1, x2, x3, x4, x5, x6, xz, -⟩ := hS
    go_simp
    first | done | with_reducible rfl
  try simp only [Act.put, List.setIfInBounds_toArray, List.set_cons_zero, List.set_cons_succ]
  refine wpAnyH_take (i := 5) (oi := ⟨_, _, _, _, _, _⟩) (v := ?_) rfl (by kernel_rfl) (by kernel_rfl) (by kernel_rfl) (fun _ _ _ h => h) (Or.inl ⟨by rfl, ?_⟩) hHeld ?_
  rotate_left
  · intro w' hS
    obtain ⟨x0, x1, x2, x3, x4, x5, x6, xz, -⟩ := hS
    go_simp
    first | done | with_reducible rfl
  try simp only [Act.put, List.setIfInBounds_toArray, List.set_cons_zero, List.set_cons_succ]
  refine wpAnyH_ready (rs := [4]) (by kernel_rfl) (by simp) ?_
  refine AllReadyH.cons rfl (fun K hK => ?_) AllReadyH.nil
  go_simp
  refine Hdc.out.mono ?_
  rintro en w6 ⟨rfl, h6⟩
  have H6 := hide h6
  clear h6
  go_simp
  refine hK.out _ _ H6.out.seen (fun hHeld => ?_)
  clear hK K
  try simp only [Act.put, List.setIfInBounds_toArray, List.set_cons_zero, List.set_cons_succ]
  refine wpAnyH_take (i := 6) (oi := ⟨_, _, _, _, _, _⟩) (v := ?_) rfl (by kernel_rfl) (by kernel_rfl) (by kernel_rfl) (fun _ _ _ h => h) (Or.inl ⟨by rfl, ?_⟩) hHeld ?_
  rotate_left
  · intro w' hS
    obtain ⟨x0, x1, x2, x3, x4, x5, x6, xz, -⟩ := hS
    go_simp
    first | done | with_reducible rfl
  try simp only [Act.put, List.setIfInBounds_toArray, List.set_cons_zero, List.set_cons_succ]
  obtain ⟨m0, m1, m2, m3, m4, m5, m6, g0, g1, g2, g3, g4, g5, g6⟩ := H6.out.b2.seven
  refine wpAnyH_ready (rs := [7]) (by kernel_rfl) (by simp) ?_
  refine AllReadyH.cons rfl (fun K hK => ?_) AllReadyH.nil
  go_simp
  refine hK.out _ _ (H6.out.put2 _ _ _ _ _ _ _).seen (fun hHeld => ?_)
  clear hK K
  try simp only [Act.put, List.setIfInBounds_toArray, List.set_cons_zero, List.set_cons_succ]
  refine wpAnyH_take (i := 8) (oi := ⟨_, _, _, _, _, _⟩) (v := ?_) rfl (by kernel_rfl) (by kernel_rfl) (by kernel_rfl) (fun _ _ _ h => h) (Or.inl ⟨by rfl, ?_⟩) hHeld ?_
  rotate_left
  · intro w' hS
    obtain ⟨x0, x1, x2, x3, x4, x5, x6, xz, -⟩ := hS
    go_simp
    first | done | with_reducible rfl
  try simp only [Act.put, List.setIfInBounds_toArray, List.set_cons_zero, List.set_cons_succ]
  refine wpAnyH_done (by kernel_rfl) ?_ _
  go_wp2_with fail
  refine bodyPost_ret (v := .tuple #[.agg #[.slice A4 (Y.D.reset p.o.zone).1.zs.length c4, .int .i64 (Y.D.reset p.o.zone).1.size, .int .i64 (Y.D.reset p.o.zone).1.op, .int .i64 ((Y.D.reset p.o.zone).1.n : Int), .bool (Y.D.reset p.o.zone).1.down, .slice Ac2 Y.coming.length cc2, .slice Ah2 Y.happened.length ch2], .bool true]) ?_ rfl ?_
  · exact R7.results_agg2 (cs := #[.slice A4 (Y.D.reset p.o.zone).1.zs.length c4, .int .i64 (Y.D.reset p.o.zone).1.size, .int .i64 (Y.D.reset p.o.zone).1.op, .int .i64 ((Y.D.reset p.o.zone).1.n : Int), .bool (Y.D.reset p.o.zone).1.down, .slice Ac2 Y.coming.length cc2, .slice Ah2 Y.happened.length ch2]) (fn := Try.f35) (p := 6) (u := 7) (g := w.heap.size + 1 + 1) (t := 62) rfl Try.underlying62 rfl sizeD8 _ _ rfl rfl (H6.out.b2.put7 _ _ _ _ _ _ _)
  · rw [hplay.out]
    exact (H6.out.put2 _ _ _ _ _ _ _).done (by rw [HY.out]; exact ⟨rfl, rfl, rfl⟩) rfl

set_option maxRecDepth 100000 in
set_option maxHeartbeats 4000000 in
theorem step_finish (h : Two8 w q d X F G A' c' es' Ac' cc' Ah' ch') (hgd : X.Good m) (hm : m < 190) (hl : X.D.zs.length < 65536) (hsz : X.D.size ≤ 64) (p : OpP) (hp : p.Fits) (hk : p.o.kind = 4) :
    Calls Try.prog 35 #[.pointer (some ⟨q, 0, none⟩), agg8 X A' c' Ac' cc' Ah' ch', .agg p.cells.toArray] w (Stepped8 w F G q d (X.play p)) := by
  unfold agg8
  have hplay : Hid (X.play p = (X.finish p.o.zone).1) := hide (by simp [Dr.play, hk])
  have Hst := hide (fun Wn hW => At8.start h p (Wn := Wn) hW)
  have Hgd := hide hgd
  have Hm := hide hm
  have Hl := hide hl
  have Hsz := hide hsz
  have Hp := hide hp
  have Hk := hide hk
  clear h hgd hm hl hsz hp hk
  go_enter Try.func35, Try.ntmps35
  go_upto_region 1 with (fail)
  generalize hW : World.alloc (World.alloc (World.alloc w _) _) _ = W
  have hA := Hst.out W hW
  have HA := hide hA
  clear hW Hst hA
  obtain ⟨a0, a1, a2, a3, a4, a5, a6, f0, f1, f2, f3, f4, f5, f6⟩ := HA.out.b0.seven
  obtain ⟨o0, o1, o2, o67, or_, oe_⟩ := OpP.at_ HA.out.b1
  obtain ⟨m0, m1, m2, m3, m4, m5, m6, g0, g1, g2, g3, g4, g5, g6⟩ := HA.out.b2.seven
  have Or := hide or_
  have Oe := hide oe_
  clear or_ oe_
  rw [Hk.out] at o0
  go_upto_region 2 with (fail)
  have HGX := Hgd.out
  obtain ⟨hyg, hyl, hyn⟩ := HGX.begin (by have := Hm.out; omega) p.o.zone
  obtain ⟨Y, hY⟩ : ∃ Y, Y = (X.begin_ p.o.zone) := ⟨_, rfl⟩
  rw [← hY] at hyg hyl hyn
  have hdue := HA.out.ref (Y2 := Y) (fun G1 hr => R8.due_any hr (HGX.bd (by have := Hm.out; omega)) Hl.out p.o.zone false Y (by rw [hY]; rfl))
  unfold agg8 at hdue
  have Hdue := hide hdue
  have HY := hide hY
  have Hyg := hide hyg
  have Hyl := hide hyl
  clear hdue HGX hyg hyl hyn hY
  go_wp2_with fail
  refine Hdue.out.mono ?_
  rintro en w1 ⟨A2, c2, es2, Ac2, cc2, Ah2, ch2, rfl, h1⟩
  clear a0 a1 a2 a3 a4 a5 a6 f0 f1 f2 f3 f4 f5 f6 o0 o1 o2 o67 m0 m1 m2 m3 m4 m5 m6 g0 g1 g2 g3 g4 g5 g6 Or Oe Hdue
  have Hs1 := hide (fun W (hW : put7 w1 w.heap.size (.slice A2 Y.D.zs.length c2) (.int .i64 Y.D.size) (.int .i64 Y.D.op) (.int .i64 (Y.D.n : Int)) (.bool Y.D.down) (.slice Ac2 Y.coming.length cc2) (.slice Ah2 Y.happened.length ch2) = W) => (h1.put0 (.slice A2 Y.D.zs.length c2) (.int .i64 Y.D.size) (.int .i64 Y.D.op) (.int .i64 (Y.D.n : Int)) (.bool Y.D.down) (.slice Ac2 Y.coming.length cc2) (.slice Ah2 Y.happened.length ch2)).cast hW)
  have H1 := hide h1
  clear h1 HA
  obtain ⟨a0, a1, a2, a3, a4, a5, a6, f0, f1, f2, f3, f4, f5, f6⟩ := H1.out.b0.seven
  obtain ⟨o0, o1, o2, o67, or_, oe_⟩ := OpP.at_ H1.out.b1
  obtain ⟨m0, m1, m2, m3, m4, m5, m6, g0, g1, g2, g3, g4, g5, g6⟩ := H1.out.b2.seven
  have Or := hide or_
  have Oe := hide oe_
  clear or_ oe_
  rw [Hk.out] at o0
  go_upto_region 3 with (fail)
  clear a0 a1 a2 a3 a4 a5 a6 f0 f1 f2 f3 f4 f5 f6 o0 o1 o2 o67 m0 m1 m2 m3 m4 m5 m6 g0 g1 g2 g3 g4 g5 g6 Or Oe
  generalize hW : World.setCell (World.setCell (World.setCell (World.setCell (World.setCell (World.setCell (World.setCell _ _ _) _ _) _ _) _ _) _ _) _ _) _ _ = w2
  have hB := Hs1.out w2 hW
  have HB := hide hB
  clear hW hB Hs1 H1
  obtain ⟨a0, a1, a2, a3, a4, a5, a6, f0, f1, f2, f3, f4, f5, f6⟩ := HB.out.b0.seven
  obtain ⟨o0, o1, o2, o67, or_, oe_⟩ := OpP.at_ HB.out.b1
  obtain ⟨m0, m1, m2, m3, m4, m5, m6, g0, g1, g2, g3, g4, g5, g6⟩ := HB.out.b2.seven
  have Or := hide or_
  have Oe := hide oe_
  clear or_ oe_
  rw [Hk.out] at o0
  go_upto_region 19 with (fail)
  have HN : Hid (Y.D.n < 65536) := hide (by have := Hyg.out.ok.n; have := Hm.out; omega)
  have HL : Hid (∀ x ∈ Y.D.zs, x.L.length < 65536) := hide (fun x hx => by have := (Hyg.out.ok.zs x hx).1; have := Hm.out; omega)
  have HlY : Hid (Y.D.zs.length < 65536) := hide (by have := Hyl.out.len; have := Hl.out; omega)
  have hrc := HB.out.gave (fun G1 hr => R7.finish_any hr HN.out HlY.out p.o.zone)
  have Hrc := hide hrc
  clear hrc
  go_wp2_with fail
  refine Hrc.out.mono ?_
  rintro en w4 ⟨A4, c4, es4, rfl, h4⟩
  clear a0 a1 a2 a3 a4 a5 a6 f0 f1 f2 f3 f4 f5 f6 o0 o1 o2 o67 m0 m1 m2 m3 m4 m5 m6 g0 g1 g2 g3 g4 g5 g6 Or Oe Hrc HB
  unfold aggV
  have Hs4 := hide (fun W hW => (h4.put05 (.slice A4 (Y.D.finish p.o.zone).1.zs.length c4) (.int .i64 (Y.D.finish p.o.zone).1.size) (.int .i64 (Y.D.finish p.o.zone).1.op) (.int .i64 ((Y.D.finish p.o.zone).1.n : Int)) (.bool (Y.D.finish p.o.zone).1.down)).cast (W2 := W) hW)
  have H4 := hide h4
  clear h4
  obtain ⟨a0, a1, a2, a3, a4, a5, a6, f0, f1, f2, f3, f4, f5, f6⟩ := H4.out.b0.seven
  obtain ⟨o0, o1, o2, o67, or_, oe_⟩ := OpP.at_ H4.out.b1
  obtain ⟨m0, m1, m2, m3, m4, m5, m6, g0, g1, g2, g3, g4, g5, g6⟩ := H4.out.b2.seven
  have Or := hide or_
  have Oe := hide oe_
  clear or_ oe_
  rw [Hk.out] at o0
  go_upto_region 20 with (fail)
  clear a0 a1 a2 a3 a4 a5 a6 f0 f1 f2 f3 f4 f5 f6 o0 o1 o2 o67 m0 m1 m2 m3 m4 m5 m6 g0 g1 g2 g3 g4 g5 g6 Or Oe
  generalize hW : World.setCell (World.setCell (World.setCell (World.setCell (World.setCell _ _ _) _ _) _ _) _ _) _ _ = w5
  have hC := Hs4.out w5 hW
  have HCd := hide hC.drew
  clear hW hC Hs4 H4
  have hdc := HCd.out.drv (fun F1 FD A c bs Fs mb n Ac cc Ah ch h1 _ => DV.finish_any h1 (Hgd.out.bd (by have := Hm.out; omega)) Hgd.out.ok (by have := Hm.out; omega) Hl.out p.o.zone)
  rw [show (X.finish p.o.zone).2 = (Y.D.finish p.o.zone).2 by rw [HY.out]; rfl] at hdc
  have Hdc := hide hdc
  clear hdc
  refine wp_region_held_drew (S := fun w' => Seen w' w.heap.size (.slice A4 (Y.D.finish p.o.zone).1.zs.length c4) (.int .i64 (Y.D.finish p.o.zone).1.size) (.int .i64 (Y.D.finish p.o.zone).1.op) (.int .i64 ((Y.D.finish p.o.zone).1.n : Int)) (.bool (Y.D.finish p.o.zone).1.down) (.slice Ac2 Y.coming.length cc2) (.slice Ah2 Y.happened.length ch2) p) (by kernel_rfl) HCd.out.seen (fun hHeld => ?_)
  refine wpAnyH_take (i := 0) (oi := ⟨_, _, _, _, _, _⟩) (v := ?_) rfl (by kernel_rfl) (by kernel_rfl) (by kernel_rfl) (fun _ _ _ h => h) (Or.inl ⟨by rfl, ?_⟩) hHeld ?_
  rotate_left
  · intro w' hS
    obtain ⟨x0, x1, x2, x3, x4, x5, x6, xz, -⟩ := hS
    go_simp
    first | done | with_reducible rfl
  try simp only [Act.put, List.setIfInBounds_toArray, List.set_cons_zero, List.set_cons_succ]
  refine wpAnyH_take (i := 1) (oi := ⟨_, _, _, _, _, _⟩) (v := ?_) rfl (by kernel_rfl) (by kernel_rfl) (by kernel_rfl) (fun _ _ _ h => h) (Or.inl ⟨by rfl, ?_⟩) hHeld ?_
  rotate_left
  · intro w' hS
    obtain ⟨x0, x1, x2, x3, x4, x5, x6, xz, -⟩ := hS
    go_simp
    first | done | with_reducible rfl
  try simp only [Act.put, List.setIfInBounds_toArray, List.set_cons_zero, List.set_cons_succ]
  refine wpAnyH_take (i := 2) (oi := ⟨_, _, _, _, _, _⟩) (v := ?_) rfl (by kernel_rfl) (by kernel_rfl) (by kernel_rfl) (fun _ _ _ h => h) (Or.inl ⟨by rfl, ?_⟩) hHeld ?_
  rotate_left
  · intro w' hS
    obtain ⟨x0, x1, x2, x3, x4, x5, x6, xz, -⟩ := hS
    go_simp
    first | done | with_reducible rfl
  try simp only [Act.put, List.setIfInBounds_toArray, List.set_cons_zero, List.set_cons_succ]
  refine wpAnyH_take (i := 3) (oi := ⟨_, _, _, _, _, _⟩) (v := ?_) rfl (by kernel_rfl) (by kernel_rfl) (by kernel_rfl) (fun _ _ _ h => h) (Or.inl ⟨by rfl, ?_⟩) hHeld ?_
  rotate_left
  · intro w' hS
    obtain ⟨x0, x1, x2, x3, x4, x5, x6, xz, -⟩ := hS
    go_simp
    first | done | with_reducible rfl
  try simp only [Act.put, List.setIfInBounds_toArray, List.set_cons_zero, List.set_cons_succ]
  refine wpAnyH_take (i := 5) (oi := ⟨_, _, _, _, _, _⟩) (v := ?_) rfl (by kernel_rfl) (by kernel_rfl) (by kernel_rfl) (fun _ _ _ h => h) (Or.inl ⟨by rfl, ?_⟩) hHeld ?_
  rotate_left
  · intro w' hS
    obtain ⟨x0, x1, x2, x3, x4, x5, x6, xz, -⟩ := hS
    go_simp
    first | done | with_reducible rfl
  try simp only [Act.put, List.setIfInBounds_toArray, List.set_cons_zero, List.set_cons_succ]
  refine wpAnyH_ready (rs := [4]) (by kernel_rfl) (by simp) ?_
  refine AllReadyH.cons rfl (fun K hK => ?_) AllReadyH.nil
  go_simp
  refine Hdc.out.mono ?_
  rintro en w6 ⟨rfl, h6⟩
  have H6 := hide h6
  clear h6
  go_simp
  refine hK.out _ _ H6.out.seen (fun hHeld => ?_)
  clear hK K
  try simp only [Act.put, List.setIfInBounds_toArray, List.set_cons_zero, List.set_cons_succ]
  refine wpAnyH_take (i := 6) (oi := ⟨_, _, _, _, _, _⟩) (v := ?_) rfl (by kernel_rfl) (by kernel_rfl) (by kernel_rfl) (fun _ _ _ h => h) (Or.inl ⟨by rfl, ?_⟩) hHeld ?_
  rotate_left
  · intro w' hS
    obtain ⟨x0, x1, x2, x3, x4, x5, x6, xz, -⟩ := hS
    go_simp
    first | done | with_reducible rfl
  try simp only [Act.put, List.setIfInBounds_toArray, List.set_cons_zero, List.set_cons_succ]
  obtain ⟨m0, m1, m2, m3, m4, m5, m6, g0, g1, g2, g3, g4, g5, g6⟩ := H6.out.b2.seven
  refine wpAnyH_ready (rs := [7]) (by kernel_rfl) (by simp) ?_
  refine AllReadyH.cons rfl (fun K hK => ?_) AllReadyH.nil
  go_simp
  refine hK.out _ _ (H6.out.put2 _ _ _ _ _ _ _).seen (fun hHeld => ?_)
  clear hK K
  try simp only [Act.put, List.setIfInBounds_toArray, List.set_cons_zero, List.set_cons_succ]
  refine wpAnyH_take (i := 8) (oi := ⟨_, _, _, _, _, _⟩) (v := ?_) rfl (by kernel_rfl) (by kernel_rfl) (by kernel_rfl) (fun _ _ _ h => h) (Or.inl ⟨by rfl, ?_⟩) hHeld ?_
  rotate_left
  · intro w' hS
    obtain ⟨x0, x1, x2, x3, x4, x5, x6, xz, -⟩ := hS
    go_simp
    first | done | with_reducible rfl
  try simp only [Act.put, List.setIfInBounds_toArray, List.set_cons_zero, List.set_cons_succ]
  refine wpAnyH_done (by kernel_rfl) ?_ _
  go_wp2_with fail
  refine bodyPost_ret (v := .tuple #[.agg #[.slice A4 (Y.D.finish p.o.zone).1.zs.length c4, .int .i64 (Y.D.finish p.o.zone).1.size, .int .i64 (Y.D.finish p.o.zone).1.op, .int .i64 ((Y.D.finish p.o.zone).1.n : Int), .bool (Y.D.finish p.o.zone).1.down, .slice Ac2 Y.coming.length cc2, .slice Ah2 Y.happened.length ch2], .bool true]) ?_ rfl ?_
  · exact R7.results_agg2 (cs := #[.slice A4 (Y.D.finish p.o.zone).1.zs.length c4, .int .i64 (Y.D.finish p.o.zone).1.size, .int .i64 (Y.D.finish p.o.zone).1.op, .int .i64 ((Y.D.finish p.o.zone).1.n : Int), .bool (Y.D.finish p.o.zone).1.down, .slice Ac2 Y.coming.length cc2, .slice Ah2 Y.happened.length ch2]) (fn := Try.f35) (p := 6) (u := 7) (g := w.heap.size + 1 + 1) (t := 62) rfl Try.underlying62 rfl sizeD8 _ _ rfl rfl (H6.out.b2.put7 _ _ _ _ _ _ _)
  · rw [hplay.out]
    exact (H6.out.put2 _ _ _ _ _ _ _).done (by rw [HY.out]; exact ⟨rfl, rfl, rfl⟩) rfl

set_option maxRecDepth 100000 in
set_option maxHeartbeats 4000000 in
theorem step_flush (h : Two8 w q d X F G A' c' es' Ac' cc' Ah' ch') (hgd : X.Good m) (hm : m < 190) (hl : X.D.zs.length < 65536) (hsz : X.D.size ≤ 64) (p : OpP) (hp : p.Fits) (hk : p.o.kind = 5) :
    Calls Try.prog 35 #[.pointer (some ⟨q, 0, none⟩), agg8 X A' c' Ac' cc' Ah' ch', .agg p.cells.toArray] w (Stepped8 w F G q d (X.play p)) := by
  unfold agg8
  have hplay : Hid (X.play p = (X.flush).1) := hide (by simp [Dr.play, hk])
  have Hst := hide (fun Wn hW => At8.start h p (Wn := Wn) hW)
  have Hgd := hide hgd
  have Hm := hide hm
  have Hl := hide hl
  have Hsz := hide hsz
  have Hp := hide hp
  have Hk := hide hk
  clear h hgd hm hl hsz hp hk
  go_enter Try.func35, Try.ntmps35
  go_upto_region 1 with (fail)
  generalize hW : World.alloc (World.alloc (World.alloc w _) _) _ = W
  have hA := Hst.out W hW
  have HA := hide hA
  clear hW Hst hA
  obtain ⟨a0, a1, a2, a3, a4, a5, a6, f0, f1, f2, f3, f4, f5, f6⟩ := HA.out.b0.seven
  obtain ⟨o0, o1, o2, o67, or_, oe_⟩ := OpP.at_ HA.out.b1
  obtain ⟨m0, m1, m2, m3, m4, m5, m6, g0, g1, g2, g3, g4, g5, g6⟩ := HA.out.b2.seven
  have Or := hide or_
  have Oe := hide oe_
  clear or_ oe_
  rw [Hk.out] at o0
  go_upto_region 2 with (fail)
  have HGX := Hgd.out
  obtain ⟨hyg, hyl, hyn⟩ := HGX.due (by have := Hm.out; omega)
  obtain ⟨Y, hY⟩ : ∃ Y, Y = X.due := ⟨_, rfl⟩
  rw [← hY] at hyg hyl hyn
  have hdue := HA.out.ref (Y2 := Y) (fun G1 hr => R8.due_any hr (HGX.bd (by have := Hm.out; omega)) Hl.out p.o.zone true Y (by rw [hY]; rfl))
  unfold agg8 at hdue
  have Hdue := hide hdue
  have HY := hide hY
  have Hyg := hide hyg
  have Hyl := hide hyl
  clear hdue HGX hyg hyl hyn hY
  go_wp2_with fail
  refine Hdue.out.mono ?_
  rintro en w1 ⟨A2, c2, es2, Ac2, cc2, Ah2, ch2, rfl, h1⟩
  clear a0 a1 a2 a3 a4 a5 a6 f0 f1 f2 f3 f4 f5 f6 o0 o1 o2 o67 m0 m1 m2 m3 m4 m5 m6 g0 g1 g2 g3 g4 g5 g6 Or Oe Hdue
  have Hs1 := hide (fun W (hW : put7 w1 w.heap.size (.slice A2 Y.D.zs.length c2) (.int .i64 Y.D.size) (.int .i64 Y.D.op) (.int .i64 (Y.D.n : Int)) (.bool Y.D.down) (.slice Ac2 Y.coming.length cc2) (.slice Ah2 Y.happened.length ch2) = W) => (h1.put0 (.slice A2 Y.D.zs.length c2) (.int .i64 Y.D.size) (.int .i64 Y.D.op) (.int .i64 (Y.D.n : Int)) (.bool Y.D.down) (.slice Ac2 Y.coming.length cc2) (.slice Ah2 Y.happened.length ch2)).cast hW)
  have H1 := hide h1
  clear h1 HA
  obtain ⟨a0, a1, a2, a3, a4, a5, a6, f0, f1, f2, f3, f4, f5, f6⟩ := H1.out.b0.seven
  obtain ⟨o0, o1, o2, o67, or_, oe_⟩ := OpP.at_ H1.out.b1
  obtain ⟨m0, m1, m2, m3, m4, m5, m6, g0, g1, g2, g3, g4, g5, g6⟩ := H1.out.b2.seven
  have Or := hide or_
  have Oe := hide oe_
  clear or_ oe_
  rw [Hk.out] at o0
  go_upto_region 3 with (fail)
  clear a0 a1 a2 a3 a4 a5 a6 f0 f1 f2 f3 f4 f5 f6 o0 o1 o2 o67 m0 m1 m2 m3 m4 m5 m6 g0 g1 g2 g3 g4 g5 g6 Or Oe
  generalize hW : World.setCell (World.setCell (World.setCell (World.setCell (World.setCell (World.setCell (World.setCell _ _ _) _ _) _ _) _ _) _ _) _ _) _ _ = w2
  have hB := Hs1.out w2 hW
  have HB := hide hB
  clear hW hB Hs1 H1
  obtain ⟨a0, a1, a2, a3, a4, a5, a6, f0, f1, f2, f3, f4, f5, f6⟩ := HB.out.b0.seven
  obtain ⟨o0, o1, o2, o67, or_, oe_⟩ := OpP.at_ HB.out.b1
  obtain ⟨m0, m1, m2, m3, m4, m5, m6, g0, g1, g2, g3, g4, g5, g6⟩ := HB.out.b2.seven
  have Or := hide or_
  have Oe := hide oe_
  clear or_ oe_
  rw [Hk.out] at o0
  go_upto_region 22 with (fail)
  have HN : Hid (Y.D.n < 65536) := hide (by have := Hyg.out.ok.n; have := Hm.out; omega)
  have HL : Hid (∀ x ∈ Y.D.zs, x.L.length < 65536) := hide (fun x hx => by have := (Hyg.out.ok.zs x hx).1; have := Hm.out; omega)
  have HlY : Hid (Y.D.zs.length < 65536) := hide (by have := Hyl.out.len; have := Hl.out; omega)
  have hrc := HB.out.gave (fun G1 hr => R7.flush_any hr HN.out HlY.out)
  have Hrc := hide hrc
  clear hrc
  go_wp2_with fail
  refine Hrc.out.mono ?_
  rintro en w4 ⟨A4, c4, es4, rfl, h4⟩
  clear a0 a1 a2 a3 a4 a5 a6 f0 f1 f2 f3 f4 f5 f6 o0 o1 o2 o67 m0 m1 m2 m3 m4 m5 m6 g0 g1 g2 g3 g4 g5 g6 Or Oe Hrc HB
  unfold aggV
  have Hs4 := hide (fun W hW => (h4.put05 (.slice A4 (Y.D.flush).1.zs.length c4) (.int .i64 (Y.D.flush).1.size) (.int .i64 (Y.D.flush).1.op) (.int .i64 ((Y.D.flush).1.n : Int)) (.bool (Y.D.flush).1.down)).cast (W2 := W) hW)
  have H4 := hide h4
  clear h4
  obtain ⟨a0, a1, a2, a3, a4, a5, a6, f0, f1, f2, f3, f4, f5, f6⟩ := H4.out.b0.seven
  obtain ⟨o0, o1, o2, o67, or_, oe_⟩ := OpP.at_ H4.out.b1
  obtain ⟨m0, m1, m2, m3, m4, m5, m6, g0, g1, g2, g3, g4, g5, g6⟩ := H4.out.b2.seven
  have Or := hide or_
  have Oe := hide oe_
  clear or_ oe_
  rw [Hk.out] at o0
  go_upto_region 23 with (fail)
  clear a0 a1 a2 a3 a4 a5 a6 f0 f1 f2 f3 f4 f5 f6 o0 o1 o2 o67 m0 m1 m2 m3 m4 m5 m6 g0 g1 g2 g3 g4 g5 g6 Or Oe
  generalize hW : World.setCell (World.setCell (World.setCell (World.setCell (World.setCell _ _ _) _ _) _ _) _ _) _ _ = w5
  have hC := Hs4.out w5 hW
  have HCd := hide hC.drew
  clear hW hC Hs4 H4
  have hdc := HCd.out.drv (fun F1 FD A c bs Fs mb n Ac cc Ah ch h1 _ => DV.flush_any h1 (Hgd.out.bd (by have := Hm.out; omega)) Hgd.out.ok (by have := Hm.out; omega) Hl.out)
  rw [show (X.flush).2 = (Y.D.flush).2 by rw [HY.out]; rfl] at hdc
  have Hdc := hide hdc
  clear hdc
  refine wp_region_held_drew (S := fun w' => Seen w' w.heap.size (.slice A4 (Y.D.flush).1.zs.length c4) (.int .i64 (Y.D.flush).1.size) (.int .i64 (Y.D.flush).1.op) (.int .i64 ((Y.D.flush).1.n : Int)) (.bool (Y.D.flush).1.down) (.slice Ac2 Y.coming.length cc2) (.slice Ah2 Y.happened.length ch2) p) (by kernel_rfl) HCd.out.seen (fun hHeld => ?_)
  refine wpAnyH_take (i := 0) (oi := ⟨_, _, _, _, _, _⟩) (v := ?_) rfl (by kernel_rfl) (by kernel_rfl) (by kernel_rfl) (fun _ _ _ h => h) (Or.inl ⟨by rfl, ?_⟩) hHeld ?_
  rotate_left
  · intro w' hS
    obtain ⟨x0, x1, x2, x3, x4, x5, x6, xz, -⟩ := hS
    go_simp
    first | done | with_reducible rfl
  try simp only [Act.put, List.setIfInBounds_toArray, List.set_cons_zero, List.set_cons_succ]
  refine wpAnyH_take (i := 1) (oi := ⟨_, _, _, _, _, _⟩) (v := ?_) rfl (by kernel_rfl) (by kernel_rfl) (by kernel_rfl) (fun _ _ _ h => h) (Or.inl ⟨by rfl, ?_⟩) hHeld ?_
  rotate_left
  · intro w' hS
    obtain ⟨x0, x1, x2, x3, x4, x5, x6, xz, -⟩ := hS
    go_simp
    first | done | with_reducible rfl
  try simp only [Act.put, List.setIfInBounds_toArray, List.set_cons_zero, List.set_cons_succ]
  refine wpAnyH_take (i := 3) (oi := ⟨_, _, _, _, _, _⟩) (v := ?_) rfl (by kernel_rfl) (by kernel_rfl) (by kernel_rfl) (fun _ _ _ h => h) (Or.inl ⟨by rfl, ?_⟩) hHeld ?_
  rotate_left
  · intro w' hS
    obtain ⟨x0, x1, x2, x3, x4, x5, x6, xz, -⟩ := hS
    go_simp
    first | done | with_reducible rfl
  try simp only [Act.put, List.setIfInBounds_toArray, List.set_cons_zero, List.set_cons_succ]
  refine wpAnyH_ready (rs := [2]) (by kernel_rfl) (by simp) ?_
  refine AllReadyH.cons rfl (fun K hK => ?_) AllReadyH.nil
  go_simp
  refine Hdc.out.mono ?_
  rintro en w6 ⟨rfl, h6⟩
  have H6 := hide h6
  clear h6
  go_simp
  refine hK.out _ _ H6.out.seen (fun hHeld => ?_)
  clear hK K
  try simp only [Act.put, List.setIfInBounds_toArray, List.set_cons_zero, List.set_cons_succ]
  refine wpAnyH_take (i := 4) (oi := ⟨_, _, _, _, _, _⟩) (v := ?_) rfl (by kernel_rfl) (by kernel_rfl) (by kernel_rfl) (fun _ _ _ h => h) (Or.inl ⟨by rfl, ?_⟩) hHeld ?_
  rotate_left
  · intro w' hS
    obtain ⟨x0, x1, x2, x3, x4, x5, x6, xz, -⟩ := hS
    go_simp
    first | done | with_reducible rfl
  try simp only [Act.put, List.setIfInBounds_toArray, List.set_cons_zero, List.set_cons_succ]
  obtain ⟨m0, m1, m2, m3, m4, m5, m6, g0, g1, g2, g3, g4, g5, g6⟩ := H6.out.b2.seven
  refine wpAnyH_ready (rs := [5]) (by kernel_rfl) (by simp) ?_
  refine AllReadyH.cons rfl (fun K hK => ?_) AllReadyH.nil
  go_simp
  refine hK.out _ _ (H6.out.put2 _ _ _ _ _ _ _).seen (fun hHeld => ?_)
  clear hK K
  try simp only [Act.put, List.setIfInBounds_toArray, List.set_cons_zero, List.set_cons_succ]
  refine wpAnyH_take (i := 6) (oi := ⟨_, _, _, _, _, _⟩) (v := ?_) rfl (by kernel_rfl) (by kernel_rfl) (by kernel_rfl) (fun _ _ _ h => h) (Or.inl ⟨by rfl, ?_⟩) hHeld ?_
  rotate_left
  · intro w' hS
    obtain ⟨x0, x1, x2, x3, x4, x5, x6, xz, -⟩ := hS
    go_simp
    first | done | with_reducible rfl
  try simp only [Act.put, List.setIfInBounds_toArray, List.set_cons_zero, List.set_cons_succ]
  refine wpAnyH_done (by kernel_rfl) ?_ _
  go_wp2_with fail
  refine bodyPost_ret (v := .tuple #[.agg #[.slice A4 (Y.D.flush).1.zs.length c4, .int .i64 (Y.D.flush).1.size, .int .i64 (Y.D.flush).1.op, .int .i64 ((Y.D.flush).1.n : Int), .bool (Y.D.flush).1.down, .slice Ac2 Y.coming.length cc2, .slice Ah2 Y.happened.length ch2], .bool true]) ?_ rfl ?_
  · exact R7.results_agg2 (cs := #[.slice A4 (Y.D.flush).1.zs.length c4, .int .i64 (Y.D.flush).1.size, .int .i64 (Y.D.flush).1.op, .int .i64 ((Y.D.flush).1.n : Int), .bool (Y.D.flush).1.down, .slice Ac2 Y.coming.length cc2, .slice Ah2 Y.happened.length ch2]) (fn := Try.f35) (p := 6) (u := 7) (g := w.heap.size + 1 + 1) (t := 62) rfl Try.underlying62 rfl sizeD8 _ _ rfl rfl (H6.out.b2.put7 _ _ _ _ _ _ _)
  · rw [hplay.out]
    exact (H6.out.put2 _ _ _ _ _ _ _).done (by rw [HY.out]; exact ⟨rfl, rfl, rfl⟩) rfl

set_option maxRecDepth 100000 in
set_option maxHeartbeats 4000000 in
theorem step_revive (h : Two8 w q d X F G A' c' es' Ac' cc' Ah' ch') (hgd : X.Good m) (hm : m < 190) (hl : X.D.zs.length < 65536) (hsz : X.D.size ≤ 64) (p : OpP) (hp : p.Fits) (hk : p.o.kind = 6) (hK : DM.CameInts w p.o.K p.o.keep) (hKF : 0 < p.o.keep.length → ∀ b off, p.o.K = some ⟨b, off, none⟩ → ¬ F b) (hkl : p.o.keep.length ≤ maxLen) :
    Calls Try.prog 35 #[.pointer (some ⟨q, 0, none⟩), agg8 X A' c' Ac' cc' Ah' ch', .agg p.cells.toArray] w (Stepped8 w F G q d (X.play p)) := by
  unfold agg8
  have HK := hide hK
  have HKF := hide hKF
  have Hkl := hide hkl
  clear hK hKF hkl
  have hplay : Hid (X.play p = (X.revive p.o.keep)) := hide (by simp [Dr.play, hk])
  have Hst := hide (fun Wn hW => At8.start h p (Wn := Wn) hW)
  have Hgd := hide hgd
  have Hm := hide hm
  have Hl := hide hl
  have Hsz := hide hsz
  have Hp := hide hp
  have Hk := hide hk
  clear h hgd hm hl hsz hp hk
  go_enter Try.func35, Try.ntmps35
  go_upto_region 1 with (fail)
  generalize hW : World.alloc (World.alloc (World.alloc w _) _) _ = W
  have hA := Hst.out W hW
  have HA := hide hA
  clear hW Hst hA
  obtain ⟨a0, a1, a2, a3, a4, a5, a6, f0, f1, f2, f3, f4, f5, f6⟩ := HA.out.b0.seven
  obtain ⟨o0, o1, o2, o67, or_, oe_⟩ := OpP.at_ HA.out.b1
  obtain ⟨m0, m1, m2, m3, m4, m5, m6, g0, g1, g2, g3, g4, g5, g6⟩ := HA.out.b2.seven
  have Or := hide or_
  have Oe := hide oe_
  clear or_ oe_
  rw [Hk.out] at o0
  go_upto_region 25 with (fail)
  have hdc := HA.out.drv (fun F1 FD A c bs Fs mb n Ac cc Ah ch h1 hF1 => DV.revive_any h1 Hgd.out.ok (by have := Hm.out; omega) Hl.out Hsz.out p.o.K p.o.kc p.o.keep (HK.out.mods HA.out.mods HKF.out) (fun h0 b off e hf => by
    rcases hF1 b hf with h2 | h2
    · exact HKF.out h0 b off e h2
    · obtain ⟨b', off', e', hb', _⟩ := HK.out h0
      rw [e] at e'
      simp only [Option.some.injEq, Addr.mk.injEq] at e'
      omega) Hkl.out)
  have Hdc := hide hdc
  clear hdc
  go_wp2_with fail
  refine Hdc.out.mono ?_
  rintro en w3 ⟨rfl, h3⟩
  clear a0 a1 a2 a3 a4 a5 a6 f0 f1 f2 f3 f4 f5 f6 o0 o1 o2 o67 m0 m1 m2 m3 m4 m5 m6 g0 g1 g2 g3 g4 g5 g6 Or Oe Hdc HA
  have H3 := hide h3
  clear h3
  have hrc := H3.out.put (fun G1 hr => R7.revive_any hr Hl.out (fun x hx => by have h1 := Hgd.out.ok.zs x hx; have h2 := Hm.out; exact ⟨by omega, h1.2⟩) p.o.K p.o.kc p.o.keep (HK.out.mods H3.out.mods HKF.out) Hkl.out)
  have Hrc := hide hrc
  clear hrc
  obtain ⟨a0, a1, a2, a3, a4, a5, a6, f0, f1, f2, f3, f4, f5, f6⟩ := H3.out.b0.seven
  obtain ⟨o0, o1, o2, o67, or_, oe_⟩ := OpP.at_ H3.out.b1
  obtain ⟨m0, m1, m2, m3, m4, m5, m6, g0, g1, g2, g3, g4, g5, g6⟩ := H3.out.b2.seven
  have Or := hide or_
  have Oe := hide oe_
  clear or_ oe_
  rw [Hk.out] at o0
  go_wp2_with fail
  refine Hrc.out.mono ?_
  rintro en w4 ⟨A4, c4, es4, rfl, h4⟩
  clear a0 a1 a2 a3 a4 a5 a6 f0 f1 f2 f3 f4 f5 f6 o0 o1 o2 o67 m0 m1 m2 m3 m4 m5 m6 g0 g1 g2 g3 g4 g5 g6 Or Oe Hrc H3
  unfold aggV
  have Hs4 := hide (fun W hW => (h4.put05 (.slice A4 (X.D.revive p.o.keep).zs.length c4) (.int .i64 (X.D.revive p.o.keep).size) (.int .i64 (X.D.revive p.o.keep).op) (.int .i64 ((X.D.revive p.o.keep).n : Int)) (.bool (X.D.revive p.o.keep).down)).cast (W2 := W) hW)
  have H4 := hide h4
  clear h4
  obtain ⟨a0, a1, a2, a3, a4, a5, a6, f0, f1, f2, f3, f4, f5, f6⟩ := H4.out.b0.seven
  obtain ⟨o0, o1, o2, o67, or_, oe_⟩ := OpP.at_ H4.out.b1
  obtain ⟨m0, m1, m2, m3, m4, m5, m6, g0, g1, g2, g3, g4, g5, g6⟩ := H4.out.b2.seven
  have Or := hide or_
  have Oe := hide oe_
  clear or_ oe_
  rw [Hk.out] at o0
  go_upto_region 37 with (fail)
  clear a0 a1 a2 a3 a4 a5 a6 f0 f1 f2 f3 f4 f5 f6 o0 o1 o2 o67 m0 m1 m2 m3 m4 m5 m6 g0 g1 g2 g3 g4 g5 g6 Or Oe
  generalize hW : World.setCell (World.setCell (World.setCell (World.setCell (World.setCell _ _ _) _ _) _ _) _ _) _ _ = w5
  have hC := Hs4.out w5 hW
  have HC := hide hC
  clear hW hC Hs4 H4
  obtain ⟨a0, a1, a2, a3, a4, a5, a6, f0, f1, f2, f3, f4, f5, f6⟩ := HC.out.b0.seven
  obtain ⟨o0, o1, o2, o67, or_, oe_⟩ := OpP.at_ HC.out.b1
  obtain ⟨m0, m1, m2, m3, m4, m5, m6, g0, g1, g2, g3, g4, g5, g6⟩ := HC.out.b2.seven
  have Or := hide or_
  have Oe := hide oe_
  clear or_ oe_
  rw [Hk.out] at o0
  go_wp2_with fail
  refine bodyPost_ret (v := .tuple #[.agg #[.slice A4 (X.D.revive p.o.keep).zs.length c4, .int .i64 (X.D.revive p.o.keep).size, .int .i64 (X.D.revive p.o.keep).op, .int .i64 ((X.D.revive p.o.keep).n : Int), .bool (X.D.revive p.o.keep).down, .slice Ac' X.coming.length cc', .slice Ah' X.happened.length ch'], .bool true]) ?_ rfl ?_
  · exact R7.results_agg2 (cs := #[.slice A4 (X.D.revive p.o.keep).zs.length c4, .int .i64 (X.D.revive p.o.keep).size, .int .i64 (X.D.revive p.o.keep).op, .int .i64 ((X.D.revive p.o.keep).n : Int), .bool (X.D.revive p.o.keep).down, .slice Ac' X.coming.length cc', .slice Ah' X.happened.length ch']) (fn := Try.f35) (p := 6) (u := 7) (g := w.heap.size + 1 + 1) (t := 62) rfl Try.underlying62 rfl sizeD8 _ _ rfl rfl (HC.out.b2.put7 _ _ _ _ _ _ _)
  · rw [hplay.out]
    exact (HC.out.put2 _ _ _ _ _ _ _).done ⟨rfl, rfl, rfl⟩ rfl

set_option maxRecDepth 100000 in
set_option maxHeartbeats 4000000 in
theorem step_plan (h : Two8 w q d X F G A' c' es' Ac' cc' Ah' ch') (hgd : X.Good m) (hm : m < 190) (hl : X.D.zs.length < 65536) (hsz : X.D.size ≤ 64) (p : OpP) (hp : p.Fits) (hk : p.o.kind = 7) :
    Calls Try.prog 35 #[.pointer (some ⟨q, 0, none⟩), agg8 X A' c' Ac' cc' Ah' ch', .agg p.cells.toArray] w (Stepped8 w F G q d (X.play p)) := by
  unfold agg8
  have hplay : Hid (X.play p = (X.plan p.e).1) := hide (by simp [Dr.play, hk])
  have Hst := hide (fun Wn hW => At8.start h p (Wn := Wn) hW)
  have Hgd := hide hgd
  have Hm := hide hm
  have Hl := hide hl
  have Hsz := hide hsz
  have Hp := hide hp
  have Hk := hide hk
  clear h hgd hm hl hsz hp hk
  go_enter Try.func35, Try.ntmps35
  go_upto_region 1 with (fail)
  generalize hW : World.alloc (World.alloc (World.alloc w _) _) _ = W
  have hA := Hst.out W hW
  have HA := hide hA
  clear hW Hst hA
  obtain ⟨a0, a1, a2, a3, a4, a5, a6, f0, f1, f2, f3, f4, f5, f6⟩ := HA.out.b0.seven
  obtain ⟨o0, o1, o2, o67, or_, oe_⟩ := OpP.at_ HA.out.b1
  obtain ⟨m0, m1, m2, m3, m4, m5, m6, g0, g1, g2, g3, g4, g5, g6⟩ := HA.out.b2.seven
  have Or := hide or_
  have Oe := hide oe_
  clear or_ oe_
  rw [Hk.out] at o0
  go_upto_region 28 with (fail)
  clear a0 a1 a2 a3 a4 a5 a6 f0 f1 f2 f3 f4 f5 f6 o0 o1 o2 o67 m0 m1 m2 m3 m4 m5 m6 g0 g1 g2 g3 g4 g5 g6 Or Oe
  have HAd := hide HA.out.drew
  refine wp_region_held_drew (S := fun w' => w'.rangeAt (w.heap.size + 1) 68 p.e.cells) (by kernel_rfl) HAd.out.seen.ev (fun hHeld => ?_)
  refine wpAnyH_take (i := 1) (oi := ⟨_, _, _, _, _, _⟩) (v := ?_) rfl (by kernel_rfl) (by kernel_rfl) (by kernel_rfl) (fun _ _ _ h => h) (Or.inl ⟨by rfl, ?_⟩) hHeld ?_
  rotate_left
  · intro w' hS
    skip
    go_simp
    first | done | with_reducible rfl
  try simp only [Act.put, List.setIfInBounds_toArray, List.set_cons_zero, List.set_cons_succ]
  refine wpAnyH_take (i := 2) (oi := ⟨_, _, _, _, _, _⟩) (v := .agg p.e.cells.toArray) rfl (by kernel_rfl) (by kernel_rfl) (by kernel_rfl) (fun _ _ _ h => h) (yieldsIf_load_mid (by rfl) 66 (.tmp 162) rfl (w.heap.size + 1) (68) rfl p.e.cells _ (fun w' hS => hS) Try.underlying66 rfl (Ev.size _)) hHeld ?_
  try simp only [Act.put, List.setIfInBounds_toArray, List.set_cons_zero, List.set_cons_succ]
  refine wpAnyH_ready (rs := [0, 3]) (by kernel_rfl) (by simp) ?_
  refine AllReadyH.cons rfl (fun K hK => ?_) (AllReadyH.cons rfl (fun K hK => ?_) AllReadyH.nil)
  · obtain ⟨a0, a1, a2, a3, a4, a5, a6, -⟩ := HAd.out.b0.seven
    go_simp
    clear a0 a1 a2 a3 a4 a5 a6
    refine hK.out _ _ hHeld (fun hHeld => ?_)
    clear hK K
    try simp only [Act.put, List.setIfInBounds_toArray, List.set_cons_zero, List.set_cons_succ]
    have hof := fun W => R8.of_any p.e W
    unfold EvV.agg at hof
    have Hof := hide hof
    clear hof
    refine wpAnyH_ready (rs := [3]) (by kernel_rfl) (by simp) ?_
    refine AllReadyH.cons rfl (fun K hK => ?_) AllReadyH.nil
    go_simp
    refine (Hof.out _).mono ?_
    rintro en wo ⟨rfl, hbo⟩
    have HO := hide (HAd.out.below hbo)
    clear hbo Hof
    go_simp
    refine hK.out _ _ HO.out.seen.ev (fun hHeld => ?_)
    clear hK K
    try simp only [Act.put, List.setIfInBounds_toArray, List.set_cons_zero, List.set_cons_succ]
    have hpc := HO.out.refP (fun G1 hr => R8.plan_any hr (by have := Hgd.out.cnt; have := Hm.out; omega) p.e)
    unfold agg8 EvV.agg at hpc
    have Hpc := hide hpc
    clear hpc
    refine wpAnyH_ready (rs := [4]) (by kernel_rfl) (by simp) ?_
    refine AllReadyH.cons rfl (fun K hK => ?_) AllReadyH.nil
    go_simp
    refine Hpc.out.mono ?_
    rintro en w2 ⟨A2, c2, es2, Ac2, cc2, Ah2, ch2, rfl, h2⟩
    have H2 := hide h2
    clear h2 Hpc
    go_simp
    refine hK.out _ _ H2.out.seen.ev (fun hHeld => ?_)
    clear hK K
    try simp only [Act.put, List.setIfInBounds_toArray, List.set_cons_zero, List.set_cons_succ]
    refine wpAnyH_take (i := 5) (oi := ⟨_, _, _, _, _, _⟩) (v := ?_) rfl (by kernel_rfl) (by kernel_rfl) (by kernel_rfl) (fun _ _ _ h => h) (Or.inl ⟨by rfl, ?_⟩) hHeld ?_
    rotate_left
    · intro w' hS
      skip
      go_simp
      first | done | with_reducible rfl
    try simp only [Act.put, List.setIfInBounds_toArray, List.set_cons_zero, List.set_cons_succ]
    refine wpAnyH_take (i := 6) (oi := ⟨_, _, _, _, _, _⟩) (v := ?_) rfl (by kernel_rfl) (by kernel_rfl) (by kernel_rfl) (fun _ _ _ h => h) (Or.inl ⟨by rfl, ?_⟩) hHeld ?_
    rotate_left
    · intro w' hS
      skip
      go_simp
      first | done | with_reducible rfl
    try simp only [Act.put, List.setIfInBounds_toArray, List.set_cons_zero, List.set_cons_succ]
    refine wpAnyH_take (i := 7) (oi := ⟨_, _, _, _, _, _⟩) (v := ?_) rfl (by kernel_rfl) (by kernel_rfl) (by kernel_rfl) (fun _ _ _ h => h) (Or.inl ⟨by rfl, ?_⟩) hHeld ?_
    rotate_left
    · intro w' hS
      skip
      go_simp
      first | done | with_reducible rfl
    try simp only [Act.put, List.setIfInBounds_toArray, List.set_cons_zero, List.set_cons_succ]
    obtain ⟨a0, a1, a2, a3, a4, a5, a6, f0, f1, f2, f3, f4, f5, f6⟩ := H2.out.b0.seven
    refine wpAnyH_ready (rs := [8]) (by kernel_rfl) (by simp) ?_
    refine AllReadyH.cons rfl (fun K hK => ?_) AllReadyH.nil
    go_simp
    refine hK.out _ _ (H2.out.put0 _ _ _ _ _ _ _).seen.ev (fun hHeld => ?_)
    clear hK K
    try simp only [Act.put, List.setIfInBounds_toArray, List.set_cons_zero, List.set_cons_succ]
    refine wpAnyH_take (i := 9) (oi := ⟨_, _, _, _, _, _⟩) (v := ?_) rfl (by kernel_rfl) (by kernel_rfl) (by kernel_rfl) (fun _ _ _ h => h) (Or.inl ⟨by rfl, ?_⟩) hHeld ?_
    rotate_left
    · intro w' hS
      skip
      go_simp
      first | done | with_reducible rfl
    try simp only [Act.put, List.setIfInBounds_toArray, List.set_cons_zero, List.set_cons_succ]
    refine wpAnyH_done (by kernel_rfl) ?_ _
    have Hs2 := hide (fun W hW => (H2.out.put0 (.slice A2 (X.plan p.e).1.D.zs.length c2) (.int .i64 (X.plan p.e).1.D.size) (.int .i64 (X.plan p.e).1.D.op) (.int .i64 ((X.plan p.e).1.D.n : Int)) (.bool (X.plan p.e).1.D.down) (.slice Ac2 (X.plan p.e).1.coming.length cc2) (.slice Ah2 (X.plan p.e).1.happened.length ch2)).cast (W2 := W) hW)
    clear a0 a1 a2 a3 a4 a5 a6 f0 f1 f2 f3 f4 f5 f6
    go_upto_region 29 with (fail)
    generalize hW : World.setCell (World.setCell (World.setCell (World.setCell (World.setCell (World.setCell (World.setCell _ _ _) _ _) _ _) _ _) _ _) _ _) _ _ = w5
    have hC := Hs2.out w5 hW
    have HCd := hide hC.drew
    clear hW hC Hs2 H2
    have hdc := HCd.out.drv (fun F1 FD A c bs Fs mb n Ac cc Ah ch h1 _ => DV.plan_any h1 p.e Hgd.out.srt (by have := Hgd.out.cnt; have := Hm.out; omega))
    unfold EvV.agg at hdc
    have Hdc := hide hdc
    clear hdc
    refine wp_region_held_drew (S := fun w' => Seen w' w.heap.size (.slice A2 (X.plan p.e).1.D.zs.length c2) (.int .i64 (X.plan p.e).1.D.size) (.int .i64 (X.plan p.e).1.D.op) (.int .i64 ((X.plan p.e).1.D.n : Int)) (.bool (X.plan p.e).1.D.down) (.slice Ac2 (X.plan p.e).1.coming.length cc2) (.slice Ah2 (X.plan p.e).1.happened.length ch2) p) (by kernel_rfl) HCd.out.seen (fun hHeld => ?_)
    refine wpAnyH_take (i := 0) (oi := ⟨_, _, _, _, _, _⟩) (v := ?_) rfl (by kernel_rfl) (by kernel_rfl) (by kernel_rfl) (fun _ _ _ h => h) (Or.inl ⟨by rfl, ?_⟩) hHeld ?_
    rotate_left
    · intro w' hS
      obtain ⟨x0, x1, x2, x3, x4, x5, x6, xz, -⟩ := hS
      go_simp
      first | done | with_reducible rfl
    try simp only [Act.put, List.setIfInBounds_toArray, List.set_cons_zero, List.set_cons_succ]
    refine wpAnyH_take (i := 1) (oi := ⟨_, _, _, _, _, _⟩) (v := ?_) rfl (by kernel_rfl) (by kernel_rfl) (by kernel_rfl) (fun _ _ _ h => h) (Or.inl ⟨by rfl, ?_⟩) hHeld ?_
    rotate_left
    · intro w' hS
      obtain ⟨x0, x1, x2, x3, x4, x5, x6, xz, -⟩ := hS
      go_simp
      first | done | with_reducible rfl
    try simp only [Act.put, List.setIfInBounds_toArray, List.set_cons_zero, List.set_cons_succ]
    refine wpAnyH_take (i := 2) (oi := ⟨_, _, _, _, _, _⟩) (v := ?_) rfl (by kernel_rfl) (by kernel_rfl) (by kernel_rfl) (fun _ _ _ h => h) (Or.inl ⟨by rfl, ?_⟩) hHeld ?_
    rotate_left
    · intro w' hS
      obtain ⟨x0, x1, x2, x3, x4, x5, x6, xz, -⟩ := hS
      go_simp
      first | done | with_reducible rfl
    try simp only [Act.put, List.setIfInBounds_toArray, List.set_cons_zero, List.set_cons_succ]
    refine wpAnyH_take (i := 3) (oi := ⟨_, _, _, _, _, _⟩) (v := .agg p.e.cells.toArray) rfl (by kernel_rfl) (by kernel_rfl) (by kernel_rfl) (fun _ _ _ h => h) (yieldsIf_load_mid (by rfl) 66 (.tmp 170) rfl (w.heap.size + 1) (68) rfl p.e.cells _ (fun w' hS => hS.ev) Try.underlying66 rfl (Ev.size _)) hHeld ?_
    try simp only [Act.put, List.setIfInBounds_toArray, List.set_cons_zero, List.set_cons_succ]
    refine wpAnyH_take (i := 5) (oi := ⟨_, _, _, _, _, _⟩) (v := ?_) rfl (by kernel_rfl) (by kernel_rfl) (by kernel_rfl) (fun _ _ _ h => h) (Or.inl ⟨by rfl, ?_⟩) hHeld ?_
    rotate_left
    · intro w' hS
      obtain ⟨x0, x1, x2, x3, x4, x5, x6, xz, -⟩ := hS
      go_simp
      first | done | with_reducible rfl
    try simp only [Act.put, List.setIfInBounds_toArray, List.set_cons_zero, List.set_cons_succ]
    refine wpAnyH_ready (rs := [4]) (by kernel_rfl) (by simp) ?_
    refine AllReadyH.cons rfl (fun K hK => ?_) AllReadyH.nil
    go_simp
    refine Hdc.out.mono ?_
    rintro en w6 ⟨rfl, h6⟩
    have H6 := hide h6
    clear h6
    go_simp
    refine hK.out _ _ H6.out.seen (fun hHeld => ?_)
    clear hK K
    try simp only [Act.put, List.setIfInBounds_toArray, List.set_cons_zero, List.set_cons_succ]
    refine wpAnyH_take (i := 6) (oi := ⟨_, _, _, _, _, _⟩) (v := ?_) rfl (by kernel_rfl) (by kernel_rfl) (by kernel_rfl) (fun _ _ _ h => h) (Or.inl ⟨by rfl, ?_⟩) hHeld ?_
    rotate_left
    · intro w' hS
      obtain ⟨x0, x1, x2, x3, x4, x5, x6, xz, -⟩ := hS
      go_simp
      first | done | with_reducible rfl
    try simp only [Act.put, List.setIfInBounds_toArray, List.set_cons_zero, List.set_cons_succ]
    obtain ⟨m0, m1, m2, m3, m4, m5, m6, g0, g1, g2, g3, g4, g5, g6⟩ := H6.out.b2.seven
    refine wpAnyH_ready (rs := [7]) (by kernel_rfl) (by simp) ?_
    refine AllReadyH.cons rfl (fun K hK => ?_) AllReadyH.nil
    go_simp
    refine hK.out _ _ (H6.out.put2 _ _ _ _ _ _ _).seen (fun hHeld => ?_)
    clear hK K
    try simp only [Act.put, List.setIfInBounds_toArray, List.set_cons_zero, List.set_cons_succ]
    refine wpAnyH_take (i := 8) (oi := ⟨_, _, _, _, _, _⟩) (v := ?_) rfl (by kernel_rfl) (by kernel_rfl) (by kernel_rfl) (fun _ _ _ h => h) (Or.inl ⟨by rfl, ?_⟩) hHeld ?_
    rotate_left
    · intro w' hS
      obtain ⟨x0, x1, x2, x3, x4, x5, x6, xz, -⟩ := hS
      go_simp
      first | done | with_reducible rfl
    try simp only [Act.put, List.setIfInBounds_toArray, List.set_cons_zero, List.set_cons_succ]
    refine wpAnyH_done (by kernel_rfl) ?_ _
    go_wp2_with fail
    refine bodyPost_ret (v := .tuple #[.agg #[.slice A2 (X.plan p.e).1.D.zs.length c2, .int .i64 (X.plan p.e).1.D.size, .int .i64 (X.plan p.e).1.D.op, .int .i64 ((X.plan p.e).1.D.n : Int), .bool (X.plan p.e).1.D.down, .slice Ac2 (X.plan p.e).1.coming.length cc2, .slice Ah2 (X.plan p.e).1.happened.length ch2], .bool true]) ?_ rfl ?_
    · exact R7.results_agg2 (cs := #[.slice A2 (X.plan p.e).1.D.zs.length c2, .int .i64 (X.plan p.e).1.D.size, .int .i64 (X.plan p.e).1.D.op, .int .i64 ((X.plan p.e).1.D.n : Int), .bool (X.plan p.e).1.D.down, .slice Ac2 (X.plan p.e).1.coming.length cc2, .slice Ah2 (X.plan p.e).1.happened.length ch2]) (fn := Try.f35) (p := 6) (u := 7) (g := w.heap.size + 1 + 1) (t := 62) rfl Try.underlying62 rfl sizeD8 _ _ rfl rfl (H6.out.b2.put7 _ _ _ _ _ _ _)
    · rw [hplay.out]
      exact (H6.out.put2 _ _ _ _ _ _ _).done (Alike.refl _) rfl
  · have hof := fun W => R8.of_any p.e W
    unfold EvV.agg at hof
    have Hof := hide hof
    clear hof
    go_simp
    refine (Hof.out _).mono ?_
    rintro en wo ⟨rfl, hbo⟩
    have HO := hide (HAd.out.below hbo)
    clear hbo Hof
    go_simp
    refine hK.out _ _ HO.out.seen.ev (fun hHeld => ?_)
    clear hK K
    try simp only [Act.put, List.setIfInBounds_toArray, List.set_cons_zero, List.set_cons_succ]
    obtain ⟨a0, a1, a2, a3, a4, a5, a6, -⟩ := HO.out.b0.seven
    refine wpAnyH_ready (rs := [0]) (by kernel_rfl) (by simp) ?_
    refine AllReadyH.cons rfl (fun K hK => ?_) AllReadyH.nil
    go_simp
    clear a0 a1 a2 a3 a4 a5 a6
    refine hK.out _ _ hHeld (fun hHeld => ?_)
    clear hK K
    try simp only [Act.put, List.setIfInBounds_toArray, List.set_cons_zero, List.set_cons_succ]
    have hpc := HO.out.refP (fun G1 hr => R8.plan_any hr (by have := Hgd.out.cnt; have := Hm.out; omega) p.e)
    unfold agg8 EvV.agg at hpc
    have Hpc := hide hpc
    clear hpc
    refine wpAnyH_ready (rs := [4]) (by kernel_rfl) (by simp) ?_
    refine AllReadyH.cons rfl (fun K hK => ?_) AllReadyH.nil
    go_simp
    refine Hpc.out.mono ?_
    rintro en w2 ⟨A2, c2, es2, Ac2, cc2, Ah2, ch2, rfl, h2⟩
    have H2 := hide h2
    clear h2 Hpc
    go_simp
    refine hK.out _ _ H2.out.seen.ev (fun hHeld => ?_)
    clear hK K
    try simp only [Act.put, List.setIfInBounds_toArray, List.set_cons_zero, List.set_cons_succ]
    refine wpAnyH_take (i := 5) (oi := ⟨_, _, _, _, _, _⟩) (v := ?_) rfl (by kernel_rfl) (by kernel_rfl) (by kernel_rfl) (fun _ _ _ h => h) (Or.inl ⟨by rfl, ?_⟩) hHeld ?_
    rotate_left
    · intro w' hS
      skip
      go_simp
      first | done | with_reducible rfl
    try simp only [Act.put, List.setIfInBounds_toArray, List.set_cons_zero, List.set_cons_succ]
    refine wpAnyH_take (i := 6) (oi := ⟨_, _, _, _, _, _⟩) (v := ?_) rfl (by kernel_rfl) (by kernel_rfl) (by kernel_rfl) (fun _ _ _ h => h) (Or.inl ⟨by rfl, ?_⟩) hHeld ?_
    rotate_left
    · intro w' hS
      skip
      go_simp
      first | done | with_reducible rfl
    try simp only [Act.put, List.setIfInBounds_toArray, List.set_cons_zero, List.set_cons_succ]
    refine wpAnyH_take (i := 7) (oi := ⟨_, _, _, _, _, _⟩) (v := ?_) rfl (by kernel_rfl) (by kernel_rfl) (by kernel_rfl) (fun _ _ _ h => h) (Or.inl ⟨by rfl, ?_⟩) hHeld ?_
    rotate_left
    · intro w' hS
      skip
      go_simp
      first | done | with_reducible rfl
    try simp only [Act.put, List.setIfInBounds_toArray, List.set_cons_zero, List.set_cons_succ]
    obtain ⟨a0, a1, a2, a3, a4, a5, a6, f0, f1, f2, f3, f4, f5, f6⟩ := H2.out.b0.seven
    refine wpAnyH_ready (rs := [8]) (by kernel_rfl) (by simp) ?_
    refine AllReadyH.cons rfl (fun K hK => ?_) AllReadyH.nil
    go_simp
    refine hK.out _ _ (H2.out.put0 _ _ _ _ _ _ _).seen.ev (fun hHeld => ?_)
    clear hK K
    try simp only [Act.put, List.setIfInBounds_toArray, List.set_cons_zero, List.set_cons_succ]
    refine wpAnyH_take (i := 9) (oi := ⟨_, _, _, _, _, _⟩) (v := ?_) rfl (by kernel_rfl) (by kernel_rfl) (by kernel_rfl) (fun _ _ _ h => h) (Or.inl ⟨by rfl, ?_⟩) hHeld ?_
    rotate_left
    · intro w' hS
      skip
      go_simp
      first | done | with_reducible rfl
    try simp only [Act.put, List.setIfInBounds_toArray, List.set_cons_zero, List.set_cons_succ]
    refine wpAnyH_done (by kernel_rfl) ?_ _
    have Hs2 := hide (fun W hW => (H2.out.put0 (.slice A2 (X.plan p.e).1.D.zs.length c2) (.int .i64 (X.plan p.e).1.D.size) (.int .i64 (X.plan p.e).1.D.op) (.int .i64 ((X.plan p.e).1.D.n : Int)) (.bool (X.plan p.e).1.D.down) (.slice Ac2 (X.plan p.e).1.coming.length cc2) (.slice Ah2 (X.plan p.e).1.happened.length ch2)).cast (W2 := W) hW)
    clear a0 a1 a2 a3 a4 a5 a6 f0 f1 f2 f3 f4 f5 f6
    go_upto_region 29 with (fail)
    generalize hW : World.setCell (World.setCell (World.setCell (World.setCell (World.setCell (World.setCell (World.setCell _ _ _) _ _) _ _) _ _) _ _) _ _) _ _ = w5
    have hC := Hs2.out w5 hW
    have HCd := hide hC.drew
    clear hW hC Hs2 H2
    have hdc := HCd.out.drv (fun F1 FD A c bs Fs mb n Ac cc Ah ch h1 _ => DV.plan_any h1 p.e Hgd.out.srt (by have := Hgd.out.cnt; have := Hm.out; omega))
    unfold EvV.agg at hdc
    have Hdc := hide hdc
    clear hdc
    refine wp_region_held_drew (S := fun w' => Seen w' w.heap.size (.slice A2 (X.plan p.e).1.D.zs.length c2) (.int .i64 (X.plan p.e).1.D.size) (.int .i64 (X.plan p.e).1.D.op) (.int .i64 ((X.plan p.e).1.D.n : Int)) (.bool (X.plan p.e).1.D.down) (.slice Ac2 (X.plan p.e).1.coming.length cc2) (.slice Ah2 (X.plan p.e).1.happened.length ch2) p) (by kernel_rfl) HCd.out.seen (fun hHeld => ?_)
    refine wpAnyH_take (i := 0) (oi := ⟨_, _, _, _, _, _⟩) (v := ?_) rfl (by kernel_rfl) (by kernel_rfl) (by kernel_rfl) (fun _ _ _ h => h) (Or.inl ⟨by rfl, ?_⟩) hHeld ?_
    rotate_left
    · intro w' hS
      obtain ⟨x0, x1, x2, x3, x4, x5, x6, xz, -⟩ := hS
      go_simp
      first | done | with_reducible rfl
    try simp only [Act.put, List.setIfInBounds_toArray, List.set_cons_zero, List.set_cons_succ]
    refine wpAnyH_take (i := 1) (oi := ⟨_, _, _, _, _, _⟩) (v := ?_) rfl (by kernel_rfl) (by kernel_rfl) (by kernel_rfl) (fun _ _ _ h => h) (Or.inl ⟨by rfl, ?_⟩) hHeld ?_
    rotate_left
    · intro w' hS
      obtain ⟨x0, x1, x2, x3, x4, x5, x6, xz, -⟩ := hS
      go_simp
      first | done | with_reducible rfl
    try simp only [Act.put, List.setIfInBounds_toArray, List.set_cons_zero, List.set_cons_succ]
    refine wpAnyH_take (i := 2) (oi := ⟨_, _, _, _, _, _⟩) (v := ?_) rfl (by kernel_rfl) (by kernel_rfl) (by kernel_rfl) (fun _ _ _ h => h) (Or.inl ⟨by rfl, ?_⟩) hHeld ?_
    rotate_left
    · intro w' hS
      obtain ⟨x0, x1, x2, x3, x4, x5, x6, xz, -⟩ := hS
      go_simp
      first | done | with_reducible rfl
    try simp only [Act.put, List.setIfInBounds_toArray, List.set_cons_zero, List.set_cons_succ]
    refine wpAnyH_take (i := 3) (oi := ⟨_, _, _, _, _, _⟩) (v := .agg p.e.cells.toArray) rfl (by kernel_rfl) (by kernel_rfl) (by kernel_rfl) (fun _ _ _ h => h) (yieldsIf_load_mid (by rfl) 66 (.tmp 170) rfl (w.heap.size + 1) (68) rfl p.e.cells _ (fun w' hS => hS.ev) Try.underlying66 rfl (Ev.size _)) hHeld ?_
    try simp only [Act.put, List.setIfInBounds_toArray, List.set_cons_zero, List.set_cons_succ]
    refine wpAnyH_take (i := 5) (oi := ⟨_, _, _, _, _, _⟩) (v := ?_) rfl (by kernel_rfl) (by kernel_rfl) (by kernel_rfl) (fun _ _ _ h => h) (Or.inl ⟨by rfl, ?_⟩) hHeld ?_
    rotate_left
    · intro w' hS
      obtain ⟨x0, x1, x2, x3, x4, x5, x6, xz, -⟩ := hS
      go_simp
      first | done | with_reducible rfl
    try simp only [Act.put, List.setIfInBounds_toArray, List.set_cons_zero, List.set_cons_succ]
    refine wpAnyH_ready (rs := [4]) (by kernel_rfl) (by simp) ?_
    refine AllReadyH.cons rfl (fun K hK => ?_) AllReadyH.nil
    go_simp
    refine Hdc.out.mono ?_
    rintro en w6 ⟨rfl, h6⟩
    have H6 := hide h6
    clear h6
    go_simp
    refine hK.out _ _ H6.out.seen (fun hHeld => ?_)
    clear hK K
    try simp only [Act.put, List.setIfInBounds_toArray, List.set_cons_zero, List.set_cons_succ]
    refine wpAnyH_take (i := 6) (oi := ⟨_, _, _, _, _, _⟩) (v := ?_) rfl (by kernel_rfl) (by kernel_rfl) (by kernel_rfl) (fun _ _ _ h => h) (Or.inl ⟨by rfl, ?_⟩) hHeld ?_
    rotate_left
    · intro w' hS
      obtain ⟨x0, x1, x2, x3, x4, x5, x6, xz, -⟩ := hS
      go_simp
      first | done | with_reducible rfl
    try simp only [Act.put, List.setIfInBounds_toArray, List.set_cons_zero, List.set_cons_succ]
    obtain ⟨m0, m1, m2, m3, m4, m5, m6, g0, g1, g2, g3, g4, g5, g6⟩ := H6.out.b2.seven
    refine wpAnyH_ready (rs := [7]) (by kernel_rfl) (by simp) ?_
    refine AllReadyH.cons rfl (fun K hK => ?_) AllReadyH.nil
    go_simp
    refine hK.out _ _ (H6.out.put2 _ _ _ _ _ _ _).seen (fun hHeld => ?_)
    clear hK K
    try simp only [Act.put, List.setIfInBounds_toArray, List.set_cons_zero, List.set_cons_succ]
    refine wpAnyH_take (i := 8) (oi := ⟨_, _, _, _, _, _⟩) (v := ?_) rfl (by kernel_rfl) (by kernel_rfl) (by kernel_rfl) (fun _ _ _ h => h) (Or.inl ⟨by rfl, ?_⟩) hHeld ?_
    rotate_left
    · intro w' hS
      obtain ⟨x0, x1, x2, x3, x4, x5, x6, xz, -⟩ := hS
      go_simp
      first | done | with_reducible rfl
    try simp only [Act.put, List.setIfInBounds_toArray, List.set_cons_zero, List.set_cons_succ]
    refine wpAnyH_done (by kernel_rfl) ?_ _
    go_wp2_with fail
    refine bodyPost_ret (v := .tuple #[.agg #[.slice A2 (X.plan p.e).1.D.zs.length c2, .int .i64 (X.plan p.e).1.D.size, .int .i64 (X.plan p.e).1.D.op, .int .i64 ((X.plan p.e).1.D.n : Int), .bool (X.plan p.e).1.D.down, .slice Ac2 (X.plan p.e).1.coming.length cc2, .slice Ah2 (X.plan p.e).1.happened.length ch2], .bool true]) ?_ rfl ?_
    · exact R7.results_agg2 (cs := #[.slice A2 (X.plan p.e).1.D.zs.length c2, .int .i64 (X.plan p.e).1.D.size, .int .i64 (X.plan p.e).1.D.op, .int .i64 ((X.plan p.e).1.D.n : Int), .bool (X.plan p.e).1.D.down, .slice Ac2 (X.plan p.e).1.coming.length cc2, .slice Ah2 (X.plan p.e).1.happened.length ch2]) (fn := Try.f35) (p := 6) (u := 7) (g := w.heap.size + 1 + 1) (t := 62) rfl Try.underlying62 rfl sizeD8 _ _ rfl rfl (H6.out.b2.put7 _ _ _ _ _ _ _)
    · rw [hplay.out]
      exact (H6.out.put2 _ _ _ _ _ _ _).done (Alike.refl _) rfl

set_option maxRecDepth 100000 in
set_option maxHeartbeats 4000000 in
theorem step_plans (h : Two8 w q d X F G A' c' es' Ac' cc' Ah' ch') (hgd : X.Good m) (hm : m < 190) (hl : X.D.zs.length < 65536) (hsz : X.D.size ≤ 64) (p : OpP) (hp : p.Fits) (hk : p.o.kind = 8) :
    Calls Try.prog 35 #[.pointer (some ⟨q, 0, none⟩), agg8 X A' c' Ac' cc' Ah' ch', .agg p.cells.toArray] w (Stepped8 w F G q d (X.play p)) := by
  unfold agg8
  have hplay : Hid (X.play p = X.planN p.e (Dr.times p.o.off)) := hide (by simp [Dr.play, hk])
  have Hst := hide (fun Wn hW => At8.start h p (Wn := Wn) hW)
  have Hgd := hide hgd
  have Hm := hide hm
  have Hl := hide hl
  have Hsz := hide hsz
  have Hp := hide hp
  have Hk := hide hk
  clear h hgd hm hl hsz hp hk
  go_enter Try.func35, Try.ntmps35
  go_upto_region 1 with (fail)
  generalize hW : World.alloc (World.alloc (World.alloc w _) _) _ = W
  have hA := Hst.out W hW
  have HA := hide hA
  clear hW Hst hA
  obtain ⟨a0, a1, a2, a3, a4, a5, a6, f0, f1, f2, f3, f4, f5, f6⟩ := HA.out.b0.seven
  obtain ⟨o0, o1, o2, o67, or_, oe_⟩ := OpP.at_ HA.out.b1
  obtain ⟨m0, m1, m2, m3, m4, m5, m6, g0, g1, g2, g3, g4, g5, g6⟩ := HA.out.b2.seven
  have Or := hide or_
  have Oe := hide oe_
  clear or_ oe_
  rw [Hk.out] at o0
  go_upto_region 31 with (fail)
  have HT : Hid ((max (min p.o.off 300) 0 : Int) = ((Dr.times p.o.off : Nat) : Int)) := hide (by unfold Dr.times; omega)
  have ht3 := Dr.times_le p.o.off
  generalize Dr.times p.o.off = T at HT ht3 hplay
  have Ht3 := hide ht3
  clear ht3
  go_wp2_with (first | ((with_reducible refine wpList_min ?g1 (.tmp 178) ?y1 ?t1 ?o1 p.o.off 300 ?hx1 ?hy1 ?_); (case g1 => exact rfl); (case o1 => exact rfl); (case hx1 => exact rfl); (case hy1 => exact rfl)) | ((with_reducible refine wpList_max ?g2 (.tmp 179) ?y2 ?t2 ?o2 (min p.o.off 300) 0 ?hx2 ?hy2 ?_); (case g2 => exact rfl); (case o2 => exact rfl); (case hx2 => exact rfl); (case hy2 => exact rfl); rw [HT.out]))
  clear a0 a1 a2 a3 a4 a5 a6 f0 f1 f2 f3 f4 f5 f6 o0 o1 o2 o67 m0 m1 m2 m3 m4 m5 m6 g0 g1 g2 g3 g4 g5 g6 Or Oe
  go_loopw [181] (fun i wr => ∃ (k : Nat) (A2 : Option Addr) (c2 : Nat) (es2 : List RZ) (Ac2 : Option Addr) (cc2 : Nat) (Ah2 : Option Addr) (ch2 : Nat), k ≤ T ∧ i = .int .i64 k ∧ At8 w wr F G q d (X.planN p.e k) (X.planN p.e k) A2 c2 es2 Ac2 cc2 Ah2 ch2 p #[.slice A2 (X.planN p.e k).D.zs.length c2, .int .i64 (X.planN p.e k).D.size, .int .i64 (X.planN p.e k).D.op, .int .i64 ((X.planN p.e k).D.n : Int), .bool (X.planN p.e k).D.down, .slice Ac2 (X.planN p.e k).coming.length cc2, .slice Ah2 (X.planN p.e k).happened.length ch2] #[.slice none 0 0, .int .i64 0, .int .i64 0, .int .i64 0, .bool false, .slice none 0 0, .slice none 0 0]) (fun i _ => T - (intOf i).toNat)
  case atStart => exact ⟨0, A', c', es', Ac', cc', Ah', ch', Nat.zero_le _, rfl, HA.out⟩
  case round =>
    clear HA
    obtain ⟨k, A0, c0, es0, Ac0, cc0, Ah0, ch0, hk, rfl, hr⟩ := hrel
    have hgk := Dr.Good2.planN (X := X) Hgd.out.two Hp.out.ev k
    have HXk := hide (show X.planN p.e (k + 1) = ((X.planN p.e k).plan p.e).1 from rfl)
    have Hex := hide (fun h : k = T => h ▸ (rfl : X.planN p.e k = X.planN p.e k))
    obtain ⟨Xk, hXk⟩ : ∃ Xk, Xk = X.planN p.e k := ⟨_, rfl⟩
    rw [← hXk] at hr hgk HXk
    have HXe := hide hXk
    have Hgk := hide hgk
    have Hr := hide hr
    have Hk3 := hide hk
    clear hr hgk hXk Hex
    by_cases hlt : k < T
    · have g0 : decide ((k : Int) < (T : Int)) = true := decide_eq_true (by omega)
      have g00 : decide (k < T) = true := decide_eq_true hlt
      have ew : IntKind.i64.wrap ((k : Int) + 1) = ((k + 1 : Nat) : Int) := by rw [IntWalk.i64_in _ (by have := Ht3.out; omega)]; omega
      go_upto_region 33 with (fail)
      have HAd := hide Hr.out.drew
      refine wp_region_held_drew (S := fun w' => w'.rangeAt (w.heap.size + 1) 68 p.e.cells) (by kernel_rfl) HAd.out.seen.ev (fun hHeld => ?_)
      refine wpAnyH_take (i := 1) (oi := ⟨_, _, _, _, _, _⟩) (v := ?_) rfl (by kernel_rfl) (by kernel_rfl) (by kernel_rfl) (fun _ _ _ h => h) (Or.inl ⟨by rfl, ?_⟩) hHeld ?_
      rotate_left
      · intro w' hS
        skip
        go_simp
        first | done | with_reducible rfl
      try simp only [Act.put, List.setIfInBounds_toArray, List.set_cons_zero, List.set_cons_succ]
      refine wpAnyH_take (i := 2) (oi := ⟨_, _, _, _, _, _⟩) (v := .agg p.e.cells.toArray) rfl (by kernel_rfl) (by kernel_rfl) (by kernel_rfl) (fun _ _ _ h => h) (yieldsIf_load_mid (by rfl) 66 (.tmp 185) rfl (w.heap.size + 1) (68) rfl p.e.cells _ (fun w' hS => hS) Try.underlying66 rfl (Ev.size _)) hHeld ?_
      try simp only [Act.put, List.setIfInBounds_toArray, List.set_cons_zero, List.set_cons_succ]
      refine wpAnyH_ready (rs := [0, 3]) (by kernel_rfl) (by simp) ?_
      refine AllReadyH.cons rfl (fun K hK => ?_) (AllReadyH.cons rfl (fun K hK => ?_) AllReadyH.nil)
      · obtain ⟨a0, a1, a2, a3, a4, a5, a6, -⟩ := HAd.out.b0.seven
        go_simp
        clear a0 a1 a2 a3 a4 a5 a6
        refine hK.out _ _ hHeld (fun hHeld => ?_)
        clear hK K
        try simp only [Act.put, List.setIfInBounds_toArray, List.set_cons_zero, List.set_cons_succ]
        have hof := fun W => R8.of_any p.e W
        unfold EvV.agg at hof
        have Hof := hide hof
        clear hof
        refine wpAnyH_ready (rs := [3]) (by kernel_rfl) (by simp) ?_
        refine AllReadyH.cons rfl (fun K hK => ?_) AllReadyH.nil
        go_simp
        refine (Hof.out _).mono ?_
        rintro en wo ⟨rfl, hbo⟩
        have HO := hide (HAd.out.below hbo)
        clear hbo Hof
        go_simp
        refine hK.out _ _ HO.out.seen.ev (fun hHeld => ?_)
        clear hK K
        try simp only [Act.put, List.setIfInBounds_toArray, List.set_cons_zero, List.set_cons_succ]
        have hpc := HO.out.refP (fun G1 hr => R8.plan_any hr (by have := Hgk.out.cnt; have := Hm.out; have := Ht3.out; have := Hk3.out; omega) p.e)
        unfold agg8 EvV.agg at hpc
        have Hpc := hide hpc
        clear hpc
        refine wpAnyH_ready (rs := [4]) (by kernel_rfl) (by simp) ?_
        refine AllReadyH.cons rfl (fun K hK => ?_) AllReadyH.nil
        go_simp
        refine Hpc.out.mono ?_
        rintro en w2 ⟨A2, c2, es2, Ac2, cc2, Ah2, ch2, rfl, h2⟩
        have H2 := hide h2
        clear h2 Hpc
        go_simp
        refine hK.out _ _ H2.out.seen.ev (fun hHeld => ?_)
        clear hK K
        try simp only [Act.put, List.setIfInBounds_toArray, List.set_cons_zero, List.set_cons_succ]
        refine wpAnyH_take (i := 5) (oi := ⟨_, _, _, _, _, _⟩) (v := ?_) rfl (by kernel_rfl) (by kernel_rfl) (by kernel_rfl) (fun _ _ _ h => h) (Or.inl ⟨by rfl, ?_⟩) hHeld ?_
        rotate_left
        · intro w' hS
          skip
          go_simp
          first | done | with_reducible rfl
        try simp only [Act.put, List.setIfInBounds_toArray, List.set_cons_zero, List.set_cons_succ]
        refine wpAnyH_take (i := 6) (oi := ⟨_, _, _, _, _, _⟩) (v := ?_) rfl (by kernel_rfl) (by kernel_rfl) (by kernel_rfl) (fun _ _ _ h => h) (Or.inl ⟨by rfl, ?_⟩) hHeld ?_
        rotate_left
        · intro w' hS
          skip
          go_simp
          first | done | with_reducible rfl
        try simp only [Act.put, List.setIfInBounds_toArray, List.set_cons_zero, List.set_cons_succ]
        refine wpAnyH_take (i := 7) (oi := ⟨_, _, _, _, _, _⟩) (v := ?_) rfl (by kernel_rfl) (by kernel_rfl) (by kernel_rfl) (fun _ _ _ h => h) (Or.inl ⟨by rfl, ?_⟩) hHeld ?_
        rotate_left
        · intro w' hS
          skip
          go_simp
          first | done | with_reducible rfl
        try simp only [Act.put, List.setIfInBounds_toArray, List.set_cons_zero, List.set_cons_succ]
        obtain ⟨a0, a1, a2, a3, a4, a5, a6, f0, f1, f2, f3, f4, f5, f6⟩ := H2.out.b0.seven
        refine wpAnyH_ready (rs := [8]) (by kernel_rfl) (by simp) ?_
        refine AllReadyH.cons rfl (fun K hK => ?_) AllReadyH.nil
        go_simp
        refine hK.out _ _ (H2.out.put0 _ _ _ _ _ _ _).seen.ev (fun hHeld => ?_)
        clear hK K
        try simp only [Act.put, List.setIfInBounds_toArray, List.set_cons_zero, List.set_cons_succ]
        refine wpAnyH_take (i := 9) (oi := ⟨_, _, _, _, _, _⟩) (v := ?_) rfl (by kernel_rfl) (by kernel_rfl) (by kernel_rfl) (fun _ _ _ h => h) (Or.inl ⟨by rfl, ?_⟩) hHeld ?_
        rotate_left
        · intro w' hS
          skip
          go_simp
          first | done | with_reducible rfl
        try simp only [Act.put, List.setIfInBounds_toArray, List.set_cons_zero, List.set_cons_succ]
        refine wpAnyH_done (by kernel_rfl) ?_ _
        have Hs2 := hide (fun W hW => (H2.out.put0 (.slice A2 (Xk.plan p.e).1.D.zs.length c2) (.int .i64 (Xk.plan p.e).1.D.size) (.int .i64 (Xk.plan p.e).1.D.op) (.int .i64 ((Xk.plan p.e).1.D.n : Int)) (.bool (Xk.plan p.e).1.D.down) (.slice Ac2 (Xk.plan p.e).1.coming.length cc2) (.slice Ah2 (Xk.plan p.e).1.happened.length ch2)).cast (W2 := W) hW)
        clear a0 a1 a2 a3 a4 a5 a6 f0 f1 f2 f3 f4 f5 f6
        go_upto_region 34 with (fail)
        generalize hW : World.setCell (World.setCell (World.setCell (World.setCell (World.setCell (World.setCell (World.setCell _ _ _) _ _) _ _) _ _) _ _) _ _) _ _ = w5
        have hC := Hs2.out w5 hW
        have HC := hide hC
        clear hW hC Hs2 H2
        have hdc := HC.out.drv (fun F1 FD A c bs Fs mb n Ac cc Ah ch h1 _ => DV.plan_any h1 p.e Hgk.out.srt (by have := Hgk.out.cnt; have := Hm.out; have := Ht3.out; have := Hk3.out; omega))
        unfold EvV.agg at hdc
        have Hdc := hide hdc
        clear hdc
        obtain ⟨a0, a1, a2, a3, a4, a5, a6, f0, f1, f2, f3, f4, f5, f6⟩ := HC.out.b0.seven
        obtain ⟨o0, o1, o2, o67, or_, oe_⟩ := OpP.at_ HC.out.b1
        obtain ⟨m0, m1, m2, m3, m4, m5, m6, g0, g1, g2, g3, g4, g5, g6⟩ := HC.out.b2.seven
        have Or := hide or_
        have Oe := hide oe_
        clear or_ oe_
        rw [Hk.out] at o0
        go_wp2_with ((with_reducible refine wpList_load_mid ?g1 66 (.tmp 192) ?o1 (w.heap.size + 1) (68) ?x1 p.e.cells ?d1 ?r1 ?u1 ?f1 ?i1 ?_); (case g1 => exact rfl); (case o1 => exact rfl); (case x1 => exact rfl); (case r1 => exact Oe.out); (case u1 => exact Try.underlying66); (case f1 => exact rfl); (case i1 => exact Ev.size _))
        refine Hdc.out.mono ?_
        rintro en w6 ⟨rfl, h6⟩
        clear a0 a1 a2 a3 a4 a5 a6 f0 f1 f2 f3 f4 f5 f6 o0 o1 o2 o67 m0 m1 m2 m3 m4 m5 m6 g0 g1 g2 g3 g4 g5 g6 Or Oe
        have H6 := hide h6
        clear h6 Hdc HC
        go_wp2_with fail
        go_roundw
        case rel => exact ⟨k + 1, A2, c2, es2, Ac2, cc2, Ah2, ch2, by omega, by simp, by rw [HXk.out]; exact H6.out⟩
        case measure => simp [intOf]; omega
      · have hof := fun W => R8.of_any p.e W
        unfold EvV.agg at hof
        have Hof := hide hof
        clear hof
        go_simp
        refine (Hof.out _).mono ?_
        rintro en wo ⟨rfl, hbo⟩
        have HO := hide (HAd.out.below hbo)
        clear hbo Hof
        go_simp
        refine hK.out _ _ HO.out.seen.ev (fun hHeld => ?_)
        clear hK K
        try simp only [Act.put, List.setIfInBounds_toArray, List.set_cons_zero, List.set_cons_succ]
        obtain ⟨a0, a1, a2, a3, a4, a5, a6, -⟩ := HO.out.b0.seven
        refine wpAnyH_ready (rs := [0]) (by kernel_rfl) (by simp) ?_
        refine AllReadyH.cons rfl (fun K hK => ?_) AllReadyH.nil
        go_simp
        clear a0 a1 a2 a3 a4 a5 a6
        refine hK.out _ _ hHeld (fun hHeld => ?_)
        clear hK K
        try simp only [Act.put, List.setIfInBounds_toArray, List.set_cons_zero, List.set_cons_succ]
        have hpc := HO.out.refP (fun G1 hr => R8.plan_any hr (by have := Hgk.out.cnt; have := Hm.out; have := Ht3.out; have := Hk3.out; omega) p.e)
        unfold agg8 EvV.agg at hpc
        have Hpc := hide hpc
        clear hpc
        refine wpAnyH_ready (rs := [4]) (by kernel_rfl) (by simp) ?_
        refine AllReadyH.cons rfl (fun K hK => ?_) AllReadyH.nil
        go_simp
        refine Hpc.out.mono ?_
        rintro en w2 ⟨A2, c2, es2, Ac2, cc2, Ah2, ch2, rfl, h2⟩
        have H2 := hide h2
        clear h2 Hpc
        go_simp
        refine hK.out _ _ H2.out.seen.ev (fun hHeld => ?_)
        clear hK K
        try simp only [Act.put, List.setIfInBounds_toArray, List.set_cons_zero, List.set_cons_succ]
        refine wpAnyH_take (i := 5) (oi := ⟨_, _, _, _, _, _⟩) (v := ?_) rfl (by kernel_rfl) (by kernel_rfl) (by kernel_rfl) (fun _ _ _ h => h) (Or.inl ⟨by rfl, ?_⟩) hHeld ?_
        rotate_left
        · intro w' hS
          skip
          go_simp
          first | done | with_reducible rfl
        try simp only [Act.put, List.setIfInBounds_toArray, List.set_cons_zero, List.set_cons_succ]
        refine wpAnyH_take (i := 6) (oi := ⟨_, _, _, _, _, _⟩) (v := ?_) rfl (by kernel_rfl) (by kernel_rfl) (by kernel_rfl) (fun _ _ _ h => h) (Or.inl ⟨by rfl, ?_⟩) hHeld ?_
        rotate_left
        · intro w' hS
          skip
          go_simp
          first | done | with_reducible rfl
        try simp only [Act.put, List.setIfInBounds_toArray, List.set_cons_zero, List.set_cons_succ]
        refine wpAnyH_take (i := 7) (oi := ⟨_, _, _, _, _, _⟩) (v := ?_) rfl (by kernel_rfl) (by kernel_rfl) (by kernel_rfl) (fun _ _ _ h => h) (Or.inl ⟨by rfl, ?_⟩) hHeld ?_
        rotate_left
        · intro w' hS
          skip
          go_simp
          first | done | with_reducible rfl
        try simp only [Act.put, List.setIfInBounds_toArray, List.set_cons_zero, List.set_cons_succ]
        obtain ⟨a0, a1, a2, a3, a4, a5, a6, f0, f1, f2, f3, f4, f5, f6⟩ := H2.out.b0.seven
        refine wpAnyH_ready (rs := [8]) (by kernel_rfl) (by simp) ?_
        refine AllReadyH.cons rfl (fun K hK => ?_) AllReadyH.nil
        go_simp
        refine hK.out _ _ (H2.out.put0 _ _ _ _ _ _ _).seen.ev (fun hHeld => ?_)
        clear hK K
        try simp only [Act.put, List.setIfInBounds_toArray, List.set_cons_zero, List.set_cons_succ]
        refine wpAnyH_take (i := 9) (oi := ⟨_, _, _, _, _, _⟩) (v := ?_) rfl (by kernel_rfl) (by kernel_rfl) (by kernel_rfl) (fun _ _ _ h => h) (Or.inl ⟨by rfl, ?_⟩) hHeld ?_
        rotate_left
        · intro w' hS
          skip
          go_simp
          first | done | with_reducible rfl
        try simp only [Act.put, List.setIfInBounds_toArray, List.set_cons_zero, List.set_cons_succ]
        refine wpAnyH_done (by kernel_rfl) ?_ _
        have Hs2 := hide (fun W hW => (H2.out.put0 (.slice A2 (Xk.plan p.e).1.D.zs.length c2) (.int .i64 (Xk.plan p.e).1.D.size) (.int .i64 (Xk.plan p.e).1.D.op) (.int .i64 ((Xk.plan p.e).1.D.n : Int)) (.bool (Xk.plan p.e).1.D.down) (.slice Ac2 (Xk.plan p.e).1.coming.length cc2) (.slice Ah2 (Xk.plan p.e).1.happened.length ch2)).cast (W2 := W) hW)
        clear a0 a1 a2 a3 a4 a5 a6 f0 f1 f2 f3 f4 f5 f6
        go_upto_region 34 with (fail)
        generalize hW : World.setCell (World.setCell (World.setCell (World.setCell (World.setCell (World.setCell (World.setCell _ _ _) _ _) _ _) _ _) _ _) _ _) _ _ = w5
        have hC := Hs2.out w5 hW
        have HC := hide hC
        clear hW hC Hs2 H2
        have hdc := HC.out.drv (fun F1 FD A c bs Fs mb n Ac cc Ah ch h1 _ => DV.plan_any h1 p.e Hgk.out.srt (by have := Hgk.out.cnt; have := Hm.out; have := Ht3.out; have := Hk3.out; omega))
        unfold EvV.agg at hdc
        have Hdc := hide hdc
        clear hdc
        obtain ⟨a0, a1, a2, a3, a4, a5, a6, f0, f1, f2, f3, f4, f5, f6⟩ := HC.out.b0.seven
        obtain ⟨o0, o1, o2, o67, or_, oe_⟩ := OpP.at_ HC.out.b1
        obtain ⟨m0, m1, m2, m3, m4, m5, m6, g0, g1, g2, g3, g4, g5, g6⟩ := HC.out.b2.seven
        have Or := hide or_
        have Oe := hide oe_
        clear or_ oe_
        rw [Hk.out] at o0
        go_wp2_with ((with_reducible refine wpList_load_mid ?g1 66 (.tmp 192) ?o1 (w.heap.size + 1) (68) ?x1 p.e.cells ?d1 ?r1 ?u1 ?f1 ?i1 ?_); (case g1 => exact rfl); (case o1 => exact rfl); (case x1 => exact rfl); (case r1 => exact Oe.out); (case u1 => exact Try.underlying66); (case f1 => exact rfl); (case i1 => exact Ev.size _))
        refine Hdc.out.mono ?_
        rintro en w6 ⟨rfl, h6⟩
        clear a0 a1 a2 a3 a4 a5 a6 f0 f1 f2 f3 f4 f5 f6 o0 o1 o2 o67 m0 m1 m2 m3 m4 m5 m6 g0 g1 g2 g3 g4 g5 g6 Or Oe
        have H6 := hide h6
        clear h6 Hdc HC
        go_wp2_with fail
        go_roundw
        case rel => exact ⟨k + 1, A2, c2, es2, Ac2, cc2, Ah2, ch2, by omega, by simp, by rw [HXk.out]; exact H6.out⟩
        case measure => simp [intOf]; omega
    · have g0 : decide ((k : Int) < (T : Int)) = false := decide_eq_false (by omega)
      have g00 : decide (k < T) = false := decide_eq_false hlt
      obtain rfl : k = T := by omega
      obtain ⟨a0, a1, a2, a3, a4, a5, a6, f0, f1, f2, f3, f4, f5, f6⟩ := Hr.out.b0.seven
      obtain ⟨o0, o1, o2, o67, or_, oe_⟩ := OpP.at_ Hr.out.b1
      obtain ⟨m0, m1, m2, m3, m4, m5, m6, g0, g1, g2, g3, g4, g5, g6⟩ := Hr.out.b2.seven
      have Or := hide or_
      have Oe := hide oe_
      clear or_ oe_
      rw [Hk.out] at o0
      go_wp2_with fail
      refine bodyPost_ret (v := .tuple #[.agg #[.slice A0 Xk.D.zs.length c0, .int .i64 Xk.D.size, .int .i64 Xk.D.op, .int .i64 (Xk.D.n : Int), .bool Xk.D.down, .slice Ac0 Xk.coming.length cc0, .slice Ah0 Xk.happened.length ch0], .bool true]) ?_ rfl ?_
      · exact R7.results_agg2 (cs := #[.slice A0 Xk.D.zs.length c0, .int .i64 Xk.D.size, .int .i64 Xk.D.op, .int .i64 (Xk.D.n : Int), .bool Xk.D.down, .slice Ac0 Xk.coming.length cc0, .slice Ah0 Xk.happened.length ch0]) (fn := Try.f35) (p := 6) (u := 7) (g := w.heap.size + 1 + 1) (t := 62) rfl Try.underlying62 rfl sizeD8 _ _ rfl rfl (Hr.out.b2.put7 _ _ _ _ _ _ _)
      · rw [hplay.out, ← HXe.out]
        exact (Hr.out.put2 _ _ _ _ _ _ _).done (Alike.refl _) rfl

set_option maxRecDepth 100000 in
set_option maxHeartbeats 4000000 in
theorem step_read (h : Two8 w q d X F G A' c' es' Ac' cc' Ah' ch') (hgd : X.Good m) (hm : m < 190) (hl : X.D.zs.length < 65536) (hsz : X.D.size ≤ 64) (p : OpP) (hp : p.Fits) (hk : p.o.kind = 2) :
    Calls Try.prog 35 #[.pointer (some ⟨q, 0, none⟩), agg8 X A' c' Ac' cc' Ah' ch', .agg p.cells.toArray] w (Stepped8 w F G q d (X.play p)) := by
  unfold agg8
  have hplay : Hid (X.play p = (X.read p.o.zone p.o.off).1) := hide (by simp [Dr.play, hk])
  have Hst := hide (fun Wn hW => At8.start h p (Wn := Wn) hW)
  have Hgd := hide hgd
  have Hm := hide hm
  have Hl := hide hl
  have Hsz := hide hsz
  have Hp := hide hp
  have Hk := hide hk
  clear h hgd hm hl hsz hp hk
  go_enter Try.func35, Try.ntmps35
  go_upto_region 1 with (fail)
  generalize hW : World.alloc (World.alloc (World.alloc w _) _) _ = W
  have hA := Hst.out W hW
  have HA := hide hA
  clear hW Hst hA
  obtain ⟨a0, a1, a2, a3, a4, a5, a6, f0, f1, f2, f3, f4, f5, f6⟩ := HA.out.b0.seven
  obtain ⟨o0, o1, o2, o67, or_, oe_⟩ := OpP.at_ HA.out.b1
  obtain ⟨m0, m1, m2, m3, m4, m5, m6, g0, g1, g2, g3, g4, g5, g6⟩ := HA.out.b2.seven
  have Or := hide or_
  have Oe := hide oe_
  clear or_ oe_
  rw [Hk.out] at o0
  go_upto_region 2 with (fail)
  have HGX := Hgd.out
  obtain ⟨hyg, hyl, hyn⟩ := HGX.begin (by have := Hm.out; omega) p.o.zone
  obtain ⟨Y, hY⟩ : ∃ Y, Y = (X.begin_ p.o.zone) := ⟨_, rfl⟩
  rw [← hY] at hyg hyl hyn
  have hdue := HA.out.ref (Y2 := Y) (fun G1 hr => R8.due_any hr (HGX.bd (by have := Hm.out; omega)) Hl.out p.o.zone false Y (by rw [hY]; rfl))
  unfold agg8 at hdue
  have Hdue := hide hdue
  have HY := hide hY
  have Hyg := hide hyg
  have Hyl := hide hyl
  clear hdue HGX hyg hyl hyn hY
  go_wp2_with fail
  refine Hdue.out.mono ?_
  rintro en w1 ⟨A2, c2, es2, Ac2, cc2, Ah2, ch2, rfl, h1⟩
  clear a0 a1 a2 a3 a4 a5 a6 f0 f1 f2 f3 f4 f5 f6 o0 o1 o2 o67 m0 m1 m2 m3 m4 m5 m6 g0 g1 g2 g3 g4 g5 g6 Or Oe Hdue
  have Hs1 := hide (fun W (hW : put7 w1 w.heap.size (.slice A2 Y.D.zs.length c2) (.int .i64 Y.D.size) (.int .i64 Y.D.op) (.int .i64 (Y.D.n : Int)) (.bool Y.D.down) (.slice Ac2 Y.coming.length cc2) (.slice Ah2 Y.happened.length ch2) = W) => (h1.put0 (.slice A2 Y.D.zs.length c2) (.int .i64 Y.D.size) (.int .i64 Y.D.op) (.int .i64 (Y.D.n : Int)) (.bool Y.D.down) (.slice Ac2 Y.coming.length cc2) (.slice Ah2 Y.happened.length ch2)).cast hW)
  have H1 := hide h1
  clear h1 HA
  obtain ⟨a0, a1, a2, a3, a4, a5, a6, f0, f1, f2, f3, f4, f5, f6⟩ := H1.out.b0.seven
  obtain ⟨o0, o1, o2, o67, or_, oe_⟩ := OpP.at_ H1.out.b1
  obtain ⟨m0, m1, m2, m3, m4, m5, m6, g0, g1, g2, g3, g4, g5, g6⟩ := H1.out.b2.seven
  have Or := hide or_
  have Oe := hide oe_
  clear or_ oe_
  rw [Hk.out] at o0
  go_upto_region 3 with (fail)
  clear a0 a1 a2 a3 a4 a5 a6 f0 f1 f2 f3 f4 f5 f6 o0 o1 o2 o67 m0 m1 m2 m3 m4 m5 m6 g0 g1 g2 g3 g4 g5 g6 Or Oe
  generalize hW : World.setCell (World.setCell (World.setCell (World.setCell (World.setCell (World.setCell (World.setCell _ _ _) _ _) _ _) _ _) _ _) _ _) _ _ = w2
  have hB := Hs1.out w2 hW
  have HB := hide hB
  clear hW hB Hs1 H1
  obtain ⟨a0, a1, a2, a3, a4, a5, a6, f0, f1, f2, f3, f4, f5, f6⟩ := HB.out.b0.seven
  obtain ⟨o0, o1, o2, o67, or_, oe_⟩ := OpP.at_ HB.out.b1
  obtain ⟨m0, m1, m2, m3, m4, m5, m6, g0, g1, g2, g3, g4, g5, g6⟩ := HB.out.b2.seven
  have Or := hide or_
  have Oe := hide oe_
  clear or_ oe_
  rw [Hk.out] at o0
  go_upto_region 11 with (fail)
  have HN : Hid (Y.D.n < 65536) := hide (by have := Hyg.out.ok.n; have := Hm.out; omega)
  have HL : Hid (∀ x ∈ Y.D.zs, x.L.length < 65536) := hide (fun x hx => by have := (Hyg.out.ok.zs x hx).1; have := Hm.out; omega)
  have HlY : Hid (Y.D.zs.length < 65536) := hide (by have := Hyl.out.len; have := Hl.out; omega)
  have hdc := HB.out.drv (fun F1 FD A c bs Fs mb n Ac cc Ah ch h1 _ => DV.read_any h1 (Hgd.out.bd (by have := Hm.out; omega)) Hgd.out.ok (by have := Hm.out; omega) Hl.out p.o.zone p.o.off)
  rw [show (X.read p.o.zone p.o.off).2 = (Y.D.read p.o.zone p.o.off).2 by rw [HY.out]; rfl] at hdc
  unfold Sec.agg at hdc
  have Hdc := hide hdc
  clear hdc
  go_wp2_with fail
  refine Hdc.out.mono ?_
  rintro en w3 ⟨rfl, h3⟩
  clear a0 a1 a2 a3 a4 a5 a6 f0 f1 f2 f3 f4 f5 f6 o0 o1 o2 o67 m0 m1 m2 m3 m4 m5 m6 g0 g1 g2 g3 g4 g5 g6 Or Oe Hdc HB
  have H3 := hide h3
  clear h3
  have HZ := hide (Blk.new w3 34 Sec.zero.cs.toArray)
  have hA : Below w3.heap.size w3 ((w3.alloc (.cells Sec.zero.cs.toArray 34)).setRow w3.heap.size (Y.D.read p.o.zone p.o.off).2.1.cs.toArray) := below_setRow ((Below.refl _ w3).alloc (Nat.le_refl _) _) (Nat.le_refl _) _
  have kx := HZ.out.setRow (Y.D.read p.o.zone p.o.off).2.1.cs.toArray
  go_upto_region 12 with ((with_reducible refine wpList_store_row ?g73 34 (.tmp 12) (.tmp 73) ?o73 w3.heap.size (Y.D.read p.o.zone p.o.off).2.1.cs.toArray ?x73 ?y73 34 Sec.zero.cs.toArray ?k73 ?s73 ?l73 ?a73 ?_); (case g73 => exact rfl); (case o73 => exact rfl); (case x73 => exact rfl); (case y73 => exact rfl); (case k73 => exact HZ.out); (case s73 => exact ZD.sizeRow _); (case l73 => simp [Sec.len]); (case a73 => exact sec_all _))
  generalize hWA : World.setRow (World.alloc w3 _) _ _ = wA
  have hWA' : (w3.alloc (.cells Sec.zero.cs.toArray 34)).setRow w3.heap.size (Y.D.read p.o.zone p.o.off).2.1.cs.toArray = wA := hWA
  rw [hWA'] at hA kx
  clear hWA hWA' HZ
  have hlA := kx.lt
  have hZA := Blk.new wA 33 Sec.zero.cs.toArray
  have kxB := kx.alloc (.cells Sec.zero.cs.toArray 33)
  have hAB : Below w3.heap.size w3 (wA.alloc (.cells Sec.zero.cs.toArray 33)) := hA.alloc (by omega) _
  clear kx
  go_upto_region 13 with (fail)
  generalize hWB : World.alloc wA _ = wB
  have hWB' : wA.alloc (.cells Sec.zero.cs.toArray 33) = wB := hWB
  rw [hWB'] at hZA kxB hAB
  clear hWB hWB'
  have HB3 := hide (H3.out.below hAB)
  have hrc := H3.out.readS hAB (g := wA.heap.size) (by omega) hZA.lt (fun G1 hr => R7.read_any hr HN.out HlY.out HL.out p.o.zone p.o.off)
  unfold Sec.agg at hrc
  have Hrc := hide hrc
  have HKA := hide hZA
  have HKX := hide kxB
  have Hnx := hide hlA
  clear hrc hZA kxB hA hlA hAB
  obtain ⟨ga, hga⟩ : ∃ g, g = wA.heap.size := ⟨_, rfl⟩
  rw [← hga] at Hrc HKA Hnx ⊢
  obtain ⟨gx, hgx⟩ : ∃ g, g = w3.heap.size := ⟨_, rfl⟩
  rw [← hgx] at HKX Hnx ⊢
  have Hgx : Hid (w.heap.size + 3 ≤ gx) := hide (by have := H3.out.size; omega)
  clear hga hgx
  obtain ⟨a0, a1, a2, a3, a4, a5, a6, f0, f1, f2, f3, f4, f5, f6⟩ := HB3.out.b0.seven
  obtain ⟨o0, o1, o2, o67, or_, oe_⟩ := OpP.at_ HB3.out.b1
  obtain ⟨m0, m1, m2, m3, m4, m5, m6, g0, g1, g2, g3, g4, g5, g6⟩ := HB3.out.b2.seven
  have Or := hide or_
  have Oe := hide oe_
  clear or_ oe_
  rw [Hk.out] at o0
  go_wp2_with fail
  refine Hrc.out.mono ?_
  rintro en w4 ⟨A4, c4, es4, rfl, hb4, b0, b1, b2, h4⟩
  clear a0 a1 a2 a3 a4 a5 a6 f0 f1 f2 f3 f4 f5 f6 o0 o1 o2 o67 m0 m1 m2 m3 m4 m5 m6 g0 g1 g2 g3 g4 g5 g6 Or Oe Hrc H3 HB3
  unfold aggV
  have kx4 := (hb4.block _ HKX.out.lt).trans HKX.out
  have ka4 := (hb4.block _ HKA.out.lt).trans HKA.out
  obtain ⟨a0, a1, a2, a3, a4, a5, a6, f0, f1, f2, f3, f4, f5, f6⟩ := Blk.seven (show Blk w4 w.heap.size 62 _ from b0)
  have hm5 : Mods (fun k => k = w.heap.size) w4 _ := Mods.set5 (fun k => k = w.heap.size) w4 w.heap.size (.slice A4 (Y.D.read p.o.zone p.o.off).1.zs.length c4) (.int .i64 (Y.D.read p.o.zone p.o.off).1.size) (.int .i64 (Y.D.read p.o.zone p.o.off).1.op) (.int .i64 ((Y.D.read p.o.zone p.o.off).1.n : Int)) (.bool (Y.D.read p.o.zone p.o.off).1.down) rfl
  have ka5 := Blk.mods (show Blk w4 ga 33 _ from ka4) hm5 (by have := Hnx.out; have := Hgx.out; omega)
  have hm6 := (hm5.mono (S' := fun k => (w.heap.size ≤ k ∧ k < w.heap.size + 3) ∨ k = ga) (fun k _ e => .inl (by omega))).setRow (g := ga) (.inl (.inr rfl)) (Y.D.read p.o.zone p.o.off).2.1.cs.toArray
  have b06 := (Blk.set5of7 (show Blk w4 w.heap.size 62 _ from b0) (.slice A4 (Y.D.read p.o.zone p.o.off).1.zs.length c4) (.int .i64 (Y.D.read p.o.zone p.o.off).1.size) (.int .i64 (Y.D.read p.o.zone p.o.off).1.op) (.int .i64 ((Y.D.read p.o.zone p.o.off).1.n : Int)) (.bool (Y.D.read p.o.zone p.o.off).1.down)).setRow_far (k := ga) (by have := Hnx.out; have := Hgx.out; omega) (Y.D.read p.o.zone p.o.off).2.1.cs.toArray
  have b16 := (Blk.mods b1 hm5 (by omega)).setRow_far (k := ga) (by have := Hnx.out; have := Hgx.out; omega) (Y.D.read p.o.zone p.o.off).2.1.cs.toArray
  have b26 := (Blk.mods b2 hm5 (by omega)).setRow_far (k := ga) (by have := Hnx.out; have := Hgx.out; omega) (Y.D.read p.o.zone p.o.off).2.1.cs.toArray
  have h6 := h4 _ _ _ hm6 b06 b16 b26
  have kx6 := (Blk.mods (show Blk w4 gx 34 _ from kx4) hm5 (by have := Hgx.out; omega)).setRow_far (k := ga) (by have := Hnx.out; omega) (Y.D.read p.o.zone p.o.off).2.1.cs.toArray
  have ka6 := ka5.setRow (Y.D.read p.o.zone p.o.off).2.1.cs.toArray
  have H6s := hide (fun W hW => (h6.cast (W2 := W) hW))
  have HX6 := hide (fun W hW => kx6.castW (w' := W) hW)
  have HA6 := hide (fun W hW => ka6.castW (w' := W) hW)
  have KA5 := hide ka5
  clear kx4 ka4 hm5 ka5 hm6 b06 b16 b26 h6 kx6 ka6 b0 b1 b2 h4 hb4 HKX HKA
  go_upto_region 14 with ((with_reducible refine wpList_store_row ?g84 33 (.tmp 14) (.tmp 84) ?o84 ga (Y.D.read p.o.zone p.o.off).2.1.cs.toArray ?x84 ?y84 33 Sec.zero.cs.toArray ?k84 ?s84 ?l84 ?a84 ?_); (case g84 => exact rfl); (case o84 => exact rfl); (case x84 => exact rfl); (case y84 => exact rfl); (case k84 => exact KA5.out); (case s84 => exact R7.sizeAr _); (case l84 => simp [Sec.len]); (case a84 => exact sec_all _))
  generalize hW : World.setRow (World.setCell _ _ _) _ _ = w6
  have hC := H6s.out w6 hW
  have kx6 := HX6.out w6 hW
  have ka6 := HA6.out w6 hW
  have HCd := hide hC.drew
  have KX := hide (show Blk w6.drew gx 34 _ from kx6)
  have KA := hide (show Blk w6.drew ga 33 _ from ka6)
  clear hC kx6 ka6 hW H6s HX6 HA6 KA5 a0 a1 a2 a3 a4 a5 a6 f0 f1 f2 f3 f4 f5 f6
  have qA := eqA (Y.D.read p.o.zone p.o.off).2.1
  refine Reg.wp_region_reads (fun w' => Seen w' w.heap.size (.slice A4 (Y.D.read p.o.zone p.o.off).1.zs.length c4) (.int .i64 (Y.D.read p.o.zone p.o.off).1.size) (.int .i64 (Y.D.read p.o.zone p.o.off).1.op) (.int .i64 ((Y.D.read p.o.zone p.o.off).1.n : Int)) (.bool (Y.D.read p.o.zone p.o.off).1.down) (.slice Ac2 Y.coming.length cc2) (.slice Ah2 Y.happened.length ch2) p ∧ w'.rangeAt gx 0 (Y.D.read p.o.zone p.o.off).2.1.cs ∧ w'.rangeAt ga 0 (Y.D.read p.o.zone p.o.off).2.1.cs) 9 10 (by decide +kernel) (by decide +kernel) ⟨HCd.out.seen, ZD.range_blk _ KX.out, ZD.range_blk _ KA.out⟩ ?_
  simp only [List.take_succ_cons, List.take_zero, List.drop_succ_cons, List.drop_zero]
  iterate 9
    first
      | (refine Reg.wpReads_load rfl 34 (.tmp 12) rfl gx 0 rfl (Y.D.read p.o.zone p.o.off).2.1.cs _ (fun w' h => h.2.1) Try.underlying34 rfl (ZD.sizeSec _) (fun K hK => ?_)
         go_simp
         refine hK _ ?_
         clear hK K)
      | (refine Reg.wpReads_load rfl 33 (.tmp 14) rfl ga 0 rfl (Y.D.read p.o.zone p.o.off).2.1.cs _ (fun w' h => h.2.2) Try.underlying33 rfl (R7.sizeAx _) (fun K hK => ?_)
         go_simp
         refine hK _ ?_
         clear hK K)
      | (apply Reg.wpReads_stepG (by first | rfl | decide)
         · intro w' hS
           obtain ⟨⟨x0, x1, x2, x3, x4, x5, x6, -, -⟩, -, -⟩ := hS
           go_simp
           first | done | rfl
         intro K hK
         go_simp
         refine hK _ ?_
         clear hK K)
  refine Reg.wpReads_nil ?_
  refine Reg.wpTail_step rfl (fun K hK => ?_)
  obtain ⟨wD, hwD⟩ : ∃ wD, wD = w6.drew := ⟨_, rfl⟩
  rw [← hwD] at HCd KX KA ⊢
  clear hwD
  obtain ⟨m0, m1, m2, m3, m4, m5, m6, g0, g1, g2, g3, g4, g5, g6⟩ := HCd.out.b2.seven
  go_simp
  have hmR := Mods.put7 (fun k => k = w.heap.size + 1 + 1) wD (w.heap.size + 1 + 1) (.slice A4 (Y.D.read p.o.zone p.o.off).1.zs.length c4) (.int .i64 (Y.D.read p.o.zone p.o.off).1.size) (.int .i64 (Y.D.read p.o.zone p.o.off).1.op) (.int .i64 ((Y.D.read p.o.zone p.o.off).1.n : Int)) (.bool (Y.D.read p.o.zone p.o.off).1.down) (.slice Ac2 Y.coming.length cc2) (.slice Ah2 Y.happened.length ch2) rfl
  have HmR := hide hmR
  clear hmR
  refine hK _ _ (fun _ => ⟨(HCd.out.put2 _ _ _ _ _ _ _).seen, R7.range_mods (ZD.range_blk _ KX.out) HmR.out (by have := Hgx.out; omega), R7.range_mods (ZD.range_blk _ KA.out) HmR.out (by have := Hgx.out; have := Hnx.out; omega)⟩) ?_
  clear hK K
  refine Reg.wpTail_list _ _ _ _ (by omega) ?_
  go_wp2_with fail
  refine NoPanic.normal ?_
  go_wp2_with fail
  refine bodyPost_ret (v := .tuple #[.agg #[.slice A4 (Y.D.read p.o.zone p.o.off).1.zs.length c4, .int .i64 (Y.D.read p.o.zone p.o.off).1.size, .int .i64 (Y.D.read p.o.zone p.o.off).1.op, .int .i64 ((Y.D.read p.o.zone p.o.off).1.n : Int), .bool (Y.D.read p.o.zone p.o.off).1.down, .slice Ac2 Y.coming.length cc2, .slice Ah2 Y.happened.length ch2], .bool true]) ?_ rfl ?_
  · exact R7.results_agg2 (cs := #[.slice A4 (Y.D.read p.o.zone p.o.off).1.zs.length c4, .int .i64 (Y.D.read p.o.zone p.o.off).1.size, .int .i64 (Y.D.read p.o.zone p.o.off).1.op, .int .i64 ((Y.D.read p.o.zone p.o.off).1.n : Int), .bool (Y.D.read p.o.zone p.o.off).1.down, .slice Ac2 Y.coming.length cc2, .slice Ah2 Y.happened.length ch2]) (fn := Try.f35) (p := 6) (u := 7) (g := w.heap.size + 1 + 1) (t := 62) rfl Try.underlying62 rfl sizeD8 _ _ rfl rfl (HCd.out.b2.put7 _ _ _ _ _ _ _)
  · rw [hplay.out]
    exact (HCd.out.put2 _ _ _ _ _ _ _).done (by rw [HY.out]; exact ⟨rfl, rfl, rfl⟩) rfl

/-- A step. -/
theorem step_any (h : Two8 w q d X F G A' c' es' Ac' cc' Ah' ch') (hgd : X.Good m) (hm : m < 190) (hl : X.D.zs.length < 65536) (hsz : X.D.size ≤ 64) (p : OpP) (hp : p.Fits) (hK : DM.CameInts w p.o.K p.o.keep) (hKF : 0 < p.o.keep.length → ∀ b off, p.o.K = some ⟨b, off, none⟩ → ¬ F b) (hkl : p.o.keep.length ≤ maxLen) :
    Calls Try.prog 35 #[.pointer (some ⟨q, 0, none⟩), agg8 X A' c' Ac' cc' Ah' ch', .agg p.cells.toArray] w (Stepped8 w F G q d (X.play p)) := by
  by_cases h0 : p.o.kind < 1 ∨ 8 < p.o.kind
  · exact step_other h hgd hm hl hsz p hp h0
  · have hc : p.o.kind = 1 ∨ p.o.kind = 2 ∨ p.o.kind = 3 ∨ p.o.kind = 4 ∨ p.o.kind = 5 ∨ p.o.kind = 6 ∨ p.o.kind = 7 ∨ p.o.kind = 8 := by omega
    rcases hc with hk | hk | hk | hk | hk | hk | hk | hk
    · exact step_append h hgd hm hl hsz p hp hk
    · exact step_read h hgd hm hl hsz p hp hk
    · exact step_reset h hgd hm hl hsz p hp hk
    · exact step_finish h hgd hm hl hsz p hp hk
    · exact step_flush h hgd hm hl hsz p hp hk
    · exact step_revive h hgd hm hl hsz p hp hk hK hKF hkl
    · exact step_plan h hgd hm hl hsz p hp hk
    · exact step_plans h hgd hm hl hsz p hp hk
end
end S8
end Go.Proofs.Ytdinbhanekpjoaa
