/-
  The document's Due.
-/
import Derived.Test.YtdinbhanekpjoaaQOf8
import Derived.Deep.QuietTactic
import Derived.BigQuiet
namespace Go.Proofs.Ytdinbhanekpjoaa
open Go.RowKit
namespace R8
section
variable {w w' : World} {X : Dr} {A : Option Addr} {c : Nat} {es : List RZ} {Ac : Option Addr} {cc : Nat} {Ah : Option Addr} {ch m : Nat} {G G' S : Nat → Prop}
/-- How much is to come, read off the block. -/
def left9 (g : Nat) (w : World) : Nat := match w.cell? ⟨g, 5, none⟩ with | some (.slice _ n _) => n | _ => 0
/-- What a round of Due carries. -/
def DueInv (w : World) (G : Nat → Prop) (X : Dr) (wr : World) : Prop :=
  ∃ (Y : Dr) (A1 : Option Addr) (c1 : Nat) (es1 : List RZ) (Ac1 : Option Addr) (cc1 : Nat) (Ah1 : Option Addr) (ch1 : Nat), Y.due = X.due ∧ Y.Bd ∧ Y.D.zs.length < 65536 ∧ Ref8 wr Y A1 c1 es1 Ac1 cc1 Ah1 ch1 (fun k => (G k ∧ k < w.heap.size) ∨ w.heap.size + 2 ≤ k) ∧
    Blk wr w.heap.size 62 #[.slice A1 Y.D.zs.length c1, .int .i64 Y.D.size, .int .i64 Y.D.op, .int .i64 (Y.D.n : Int), .bool Y.D.down, .slice Ac1 Y.coming.length cc1, .slice Ah1 Y.happened.length ch1] ∧ Blk wr (w.heap.size + 1) 62 #[.slice none 0 0, .int .i64 0, .int .i64 0, .int .i64 0, .bool false, .slice none 0 0, .slice none 0 0] ∧ Below w.heap.size w wr
theorem DueInv.mods {wr w2 : World} (h : DueInv w G X wr) (hm : Mods (fun _ => False) wr w2) : DueInv w G X w2 := by
  obtain ⟨Y, A1, c1, es1, Ac1, cc1, Ah1, ch1, h1, h2, h2b, h3, h4, h5, h6⟩ := h
  exact ⟨Y, A1, c1, es1, Ac1, cc1, Ah1, ch1, h1, h2, h2b, h3.mods hm (fun _ _ _ h => h), h4.mods hm (fun h => h), h5.mods hm (fun h => h), h6.trans (hm.below h6.size (fun _ h => h.elim))⟩
set_option maxRecDepth 100000 in
set_option maxHeartbeats 4000000 in
/-- Due where the loop is entered. -/
theorem due_in (h : Ref8 w X A c es Ac cc Ah ch G) (hb : X.Bd) (hl : X.D.zs.length < 65536) (z : Int) (fl : Bool) (hin : fl = true ∨ (0 ≤ z ∧ z < (X.D.zs.length : Int))) (Y0 : Dr) (hY0 : Y0 = X.due) :
    Calls Try.prog 72 #[agg8 X A c Ac cc Ah ch, .int .i64 z, .bool fl] w (Gave8 w G Y0) := by
  unfold agg8
  have hB : Below w.heap.size w ((w.alloc (.cells #[.slice A X.D.zs.length c, .int .i64 X.D.size, .int .i64 X.D.op, .int .i64 (X.D.n : Int), .bool X.D.down, .slice Ac X.coming.length cc, .slice Ah X.happened.length ch] 62)).alloc (.cells #[.slice none 0 0, .int .i64 0, .int .i64 0, .int .i64 0, .bool false, .slice none 0 0, .slice none 0 0] 62)) := ((Below.refl _ w).alloc (Nat.le_refl _) _).alloc (by simp) _
  have k0 := (Blk.new w 62 #[.slice A X.D.zs.length c, .int .i64 X.D.size, .int .i64 X.D.op, .int .i64 (X.D.n : Int), .bool X.D.down, .slice Ac X.coming.length cc, .slice Ah X.happened.length ch]).alloc (.cells #[.slice none 0 0, .int .i64 0, .int .i64 0, .int .i64 0, .bool false, .slice none 0 0, .slice none 0 0] 62)
  have kr := Blk.new (w.alloc (.cells #[.slice A X.D.zs.length c, .int .i64 X.D.size, .int .i64 X.D.op, .int .i64 (X.D.n : Int), .bool X.D.down, .slice Ac X.coming.length cc, .slice Ah X.happened.length ch] 62)) 62 #[.slice none 0 0, .int .i64 0, .int .i64 0, .int .i64 0, .bool false, .slice none 0 0, .slice none 0 0]
  rw [World.size_alloc] at kr
  have h3 := h.tight.below hB
  have Hstart : Hid (DueInv w G X ((w.alloc (.cells #[.slice A X.D.zs.length c, .int .i64 X.D.size, .int .i64 X.D.op, .int .i64 (X.D.n : Int), .bool X.D.down, .slice Ac X.coming.length cc, .slice Ah X.happened.length ch] 62)).alloc (.cells #[.slice none 0 0, .int .i64 0, .int .i64 0, .int .i64 0, .bool false, .slice none 0 0, .slice none 0 0] 62))) := hide ⟨X, A, c, es, Ac, cc, Ah, ch, rfl, hb, hl, h3.mono (fun k hk => .inl hk), k0, kr, hB⟩
  have Hres := hide hY0
  obtain ⟨a0, -⟩ := k0.seven
  clear h hb hl hB kr h3 hY0 k0
  cases fl with
  | true =>
    clear hin
    go_enter Try.func72, Try.ntmps72
    go_upto_region 1 with (fail)
    generalize (w.alloc _).alloc _ = W2 at Hstart a0 ⊢
    go_wp2_with fail
    go_loopw [7] (fun _ wr => DueInv w G X wr) (fun _ wr => left9 w.heap.size wr)
    case atStart => exact Hstart.out
    case round =>
      obtain ⟨Y, A1, c1, es1, Ac1, cc1, Ah1, ch1, hdue, hbd, hlen8, h1, k0, kr, hb⟩ := hrel
      have Hbd := hide hbd
      have Hdue := hide hdue
      have Hlen8 := hide hlen8
      have KRr := hide kr
      have K0r := hide k0
      have HBr := hide hb
      have H1 := hide h1
      have Hmeas : Hid (left9 w.heap.size wr = Y.coming.length) := hide (by unfold left9; rw [show wr.cell? ⟨w.heap.size, 5, none⟩ = _ from k0.cell 5]; rfl)
      obtain ⟨a0, a1, a2, a3, a4, a5, a6, -⟩ := k0.seven
      clear h1 hbd hdue kr hb k0 hlen8
      by_cases hdn : Y.D.down = true
      · have hY := Dr.due_down hdn
        have Hfin := hide (Hdue.out.symm.trans hY)
        rw [hdn] at a4
        have ed : Hid (Y.D.down = true) := hide hdn
        clear hdn hY
        go_upto_region 3 with (fail)
        go_quiet (fail)
        have KR : Hid (Blk (wr.drewN nq) (w.heap.size + 1) 62 #[.slice none 0 0, .int .i64 0, .int .i64 0, .int .i64 0, .bool false, .slice none 0 0, .slice none 0 0]) := hide KRr.out
        have HR := hide (H1.out.mods ((Mods.refl (fun _ => False) wr).drewN nq) (fun _ _ _ h => h))
        have HBW := hide (HBr.out.trans ((Mods.refl (fun _ => False) wr).drewN nq |>.below HBr.out.size (fun _ h => h.elim)))
        have K0w : Blk (wr.drewN nq) w.heap.size 62 #[.slice A1 Y.D.zs.length c1, .int .i64 Y.D.size, .int .i64 Y.D.op, .int .i64 (Y.D.n : Int), .bool Y.D.down, .slice Ac1 Y.coming.length cc1, .slice Ah1 Y.happened.length ch1] := K0r.out
        clear a0 a1 a2 a3 a4 a5 a6
        generalize wr.drewN nq = wq at KR HR HBW K0w ⊢
        obtain ⟨a0, a1, a2, a3, a4, a5, a6, -⟩ := K0w.seven
        obtain ⟨r0, r1, r2, r3, r4, r5, r6, s0, s1, s2, s3, s4, s5, s6⟩ := KR.out.seven
        go_wp2_with fail
        refine bodyPost_ret (v := .agg #[.slice A1 Y.D.zs.length c1, .int .i64 Y.D.size, .int .i64 Y.D.op, .int .i64 (Y.D.n : Int), .bool Y.D.down, .slice Ac1 Y.coming.length cc1, .slice Ah1 Y.happened.length ch1]) ?_ rfl ?_
        · exact results_cell_row (fn := Try.f72) (p := 6) rfl _ _ (w.heap.size + 1) 62 _ (0, 0) _ rfl (KR.out.put7 _ _ _ _ _ _ _) Try.underlying62 rfl sizeD8
        · have hmR : ∀ v0 v1 v2 v3 v4 v5 v6, Mods (fun k => k = w.heap.size + 1) wq (put7 wq (w.heap.size + 1) v0 v1 v2 v3 v4 v5 v6) := fun v0 v1 v2 v3 v4 v5 v6 => Mods.put7 _ _ _ _ _ _ _ _ _ _ rfl
          have h9 := fun v0 v1 v2 v3 v4 v5 v6 => (HR.out.mods (hmR v0 v1 v2 v3 v4 v5 v6) (fun k hk _ e => by rcases hk with hk | hk <;> first | omega | (have := hk.2; omega))).mono (G' := fun k => G k ∨ w.heap.size ≤ k) (fun k hk => hk.imp (·.1) (fun h => by omega))
          rw [Hres.out, Hfin.out]
          exact ⟨A1, c1, _, Ac1, cc1, Ah1, ch1, rfl, h9 _ _ _ _ _ _ _, HBW.out.trans ((hmR _ _ _ _ _ _ _).below HBW.out.size (fun k e => by omega))⟩
      · have hdn2 : Y.D.down = false := by simpa using hdn
        rw [hdn2] at a4
        clear hdn
        rcases hcm : Y.coming with _ | ⟨e, l⟩
        · have hY := Dr.due_nil hcm
          have Hfin := hide (Hdue.out.symm.trans hY)
          rw [hcm] at a5
          have Hcm := hide hcm
          clear hcm hY
          go_upto_region 3 with (fail)
          go_quiet (fail)
          clear hdn2
          have KR : Hid (Blk (wr.drewN nq) (w.heap.size + 1) 62 #[.slice none 0 0, .int .i64 0, .int .i64 0, .int .i64 0, .bool false, .slice none 0 0, .slice none 0 0]) := hide KRr.out
          have HR := hide (H1.out.mods ((Mods.refl (fun _ => False) wr).drewN nq) (fun _ _ _ h => h))
          have HBW := hide (HBr.out.trans ((Mods.refl (fun _ => False) wr).drewN nq |>.below HBr.out.size (fun _ h => h.elim)))
          have K0w : Blk (wr.drewN nq) w.heap.size 62 #[.slice A1 Y.D.zs.length c1, .int .i64 Y.D.size, .int .i64 Y.D.op, .int .i64 (Y.D.n : Int), .bool Y.D.down, .slice Ac1 Y.coming.length cc1, .slice Ah1 Y.happened.length ch1] := K0r.out
          clear a0 a1 a2 a3 a4 a5 a6
          generalize wr.drewN nq = wq at KR HR HBW K0w ⊢
          obtain ⟨a0, a1, a2, a3, a4, a5, a6, -⟩ := K0w.seven
          obtain ⟨r0, r1, r2, r3, r4, r5, r6, s0, s1, s2, s3, s4, s5, s6⟩ := KR.out.seven
          go_wp2_with fail
          refine bodyPost_ret (v := .agg #[.slice A1 Y.D.zs.length c1, .int .i64 Y.D.size, .int .i64 Y.D.op, .int .i64 (Y.D.n : Int), .bool Y.D.down, .slice Ac1 Y.coming.length cc1, .slice Ah1 Y.happened.length ch1]) ?_ rfl ?_
          · exact results_cell_row (fn := Try.f72) (p := 6) rfl _ _ (w.heap.size + 1) 62 _ (0, 0) _ rfl (KR.out.put7 _ _ _ _ _ _ _) Try.underlying62 rfl sizeD8
          · have hmR : ∀ v0 v1 v2 v3 v4 v5 v6, Mods (fun k => k = w.heap.size + 1) wq (put7 wq (w.heap.size + 1) v0 v1 v2 v3 v4 v5 v6) := fun v0 v1 v2 v3 v4 v5 v6 => Mods.put7 _ _ _ _ _ _ _ _ _ _ rfl
            have h9 := fun v0 v1 v2 v3 v4 v5 v6 => (HR.out.mods (hmR v0 v1 v2 v3 v4 v5 v6) (fun k hk _ e => by rcases hk with hk | hk <;> first | omega | (have := hk.2; omega))).mono (G' := fun k => G k ∨ w.heap.size ≤ k) (fun k hk => hk.imp (·.1) (fun h => by omega))
            rw [Hres.out, Hfin.out]
            exact ⟨A1, c1, _, Ac1, cc1, Ah1, ch1, rfl, h9 _ _ _ _ _ _ _, HBW.out.trans ((hmR _ _ _ _ _ _ _).below HBW.out.size (fun k e => by omega))⟩
        · have hev := H1.out.com
          rw [hcm] at hev a5
          rw [hcm, List.length_cons] at Hmeas
          have hcc := H1.out.comc
          have hcnt := Hbd.out.cnt
          rw [hcm] at hcc hcnt
          simp only [List.length_cons] at a5 hcc hcnt
          obtain ⟨b, off, rfl, hgb, hbl, hr⟩ := hev (by simp)
          have hr0 := hr 0 (by simp)
          simp only [List.getElem_cons_zero, Nat.zero_mul, Nat.add_zero] at hr0
          obtain ⟨e0, -⟩ := EvV.four hr0
          have Hr0 := hide hr0
          have Hev := hide hev
          have Hcc := hide hcc
          have Hcnt := hide hcnt
          have Hgb := hide (And.intro hgb hbl)
          have Hcm := hide hcm
          have dl : decide ((0 : Int) < (l.length : Int) + 1) = true := decide_eq_true (by omega)
          have dl2 : decide (0 < l.length + 1) = true := decide_eq_true (by omega)
          clear hr hr0 hev hcc hcnt hgb hbl hcm
          by_cases hle : e.at_ ≤ (Y.D.n : Int)
          · have dle : decide (e.at_ ≤ (Y.D.n : Int)) = true := decide_eq_true hle
            have Hfin := hide ((Dr.due_of Hcm.out hdn2 hle).symm.trans Hdue.out)
            have Hbd2 := hide (Hbd.out.happen Hcm.out)
            have Hdn := hide hdn2
            clear hle hdn2
            go_upto_region 3 with (fail)
            go_quiet (fail)
            have hmq := (Mods.refl (fun _ => False) wr).drewN nq
            have H2 := hide (H1.out.mods hmq (fun _ _ _ h => h))
            have k02 : Blk (wr.drewN nq) w.heap.size 62 #[.slice A1 Y.D.zs.length c1, .int .i64 Y.D.size, .int .i64 Y.D.op, .int .i64 (Y.D.n : Int), .bool Y.D.down, .slice (some ⟨b, off, none⟩) (l.length + 1) cc1, .slice Ah1 Y.happened.length ch1] := by
              have := K0r.out
              rw [Hcm.out] at this
              exact this
            have kr2 : Blk (wr.drewN nq) (w.heap.size + 1) 62 #[.slice none 0 0, .int .i64 0, .int .i64 0, .int .i64 0, .bool false, .slice none 0 0, .slice none 0 0] := KRr.out
            have HB2 := hide (HBr.out.trans (hmq.below HBr.out.size (fun _ h => h.elim)))
            have Hr2 : Hid ((wr.drewN nq).rangeAt b off e.cells) := hide Hr0.out
            have hbl2 : b < (wr.drewN nq).heap.size := Hgb.out.2
            clear a0 a1 a2 a3 a4 a5 a6 e0 hmq HBr KRr K0r Hr0
            generalize wr.drewN nq = wq at H2 k02 kr2 HB2 Hr2 hbl2 ⊢
            obtain ⟨a0, a1, a2, a3, a4, a5, a6, -⟩ := k02.seven
            have HZ := hide (Blk.new wq 116 EvV.zero.cells.toArray)
            have hba : Below wq.heap.size wq ((wq.alloc (.cells EvV.zero.cells.toArray 116)).setRow wq.heap.size e.cells.toArray) := below_setRow ((Below.refl _ wq).alloc (Nat.le_refl _) _) (Nat.le_refl _) _
            have hks := HZ.out.setRow e.cells.toArray
            have K02 := hide k02
            have KR2 := hide kr2
            have Hbl2 := hide hbl2
            clear k02 kr2 hbl2
            go_upto_region 5 with (first | ((with_reducible refine wpList_load_mid ?g1 116 (.tmp 46) ?o1 b (off) ?x1 e.cells ?d1 ?r1 ?u1 ?f1 ?i1 ?_); (case g1 => exact rfl); (case o1 => exact rfl); (case x1 => exact rfl); (case r1 => exact Hr2.out); (case u1 => exact Try.underlying116); (case f1 => exact rfl); (case i1 => exact E8.size _)) | ((with_reducible refine wpList_store_row ?g2 116 (.tmp 7) (.tmp 47) ?o2 wq.heap.size e.cells.toArray ?x2 ?y2 116 EvV.zero.cells.toArray ?k2 ?s2 ?l2 ?a2 ?_); (case g2 => exact rfl); (case o2 => exact rfl); (case x2 => exact rfl); (case y2 => exact rfl); (case k2 => exact HZ.out); (case s2 => exact E8.sizeR _); (case l2 => simp [EvV.length]); (case a2 => exact EvV.all _)))
            generalize hWA : World.setRow (World.alloc wq _) _ _ = wa
            have hWA' : (wq.alloc (.cells EvV.zero.cells.toArray 116)).setRow wq.heap.size e.cells.toArray = wa := hWA
            rw [hWA'] at hba hks
            clear hWA hWA' HZ a0 a1 a2 a3 a4 a5 a6
            have H3 := hide (H2.out.below hba)
            have k03 : Blk wa w.heap.size 62 _ := (hba.block _ K02.out.lt).trans K02.out
            have kr3 : Blk wa (w.heap.size + 1) 62 #[.slice none 0 0, .int .i64 0, .int .i64 0, .int .i64 0, .bool false, .slice none 0 0, .slice none 0 0] := (hba.block _ KR2.out.lt).trans KR2.out
            have HB3 := hide (HB2.out.trans (hba.mono HB2.out.size))
            have Hwq : Hid (w.heap.size + 2 ≤ wq.heap.size) := hide (by have := KR2.out.lt; omega)
            obtain ⟨a0, a1, a2, a3, a4, a5, a6, -, -, -, -, -, f5, -⟩ := k03.seven
            have K03 := hide k03
            have KR3 := hide kr3
            have Ks := hide hks
            clear k03 kr3 hks hba
            by_cases hc1 : cc1 = 1
            · have hl0 : l = [] := List.length_eq_zero_iff.1 (by have := Hcc.out; omega)
              subst hc1
              subst hl0
              simp only [List.length_nil, Nat.zero_add] at a5 K03
              have hcom : ∀ W : World, Evs W (fun k => (G k ∧ k < w.heap.size) ∨ w.heap.size + 2 ≤ k) (some ⟨b, off, none⟩) ([] : List EvV) := fun W => Evs.nil _ _ _
              have Hcom := hide hcom
              clear hcom
              go_upto_region 6 with (fail)
              have hmS : Mods (fun k => k = w.heap.size) wa (wa.setCell ⟨w.heap.size, 5, none⟩ (.slice (some ⟨b, off, none⟩) 0 0)) := (Mods.refl (fun k => k = w.heap.size) wa).setCell (p := ⟨w.heap.size, 5, none⟩) (.inl rfl) _
              have k05 : Blk (wa.setCell ⟨w.heap.size, 5, none⟩ (.slice (some ⟨b, off, none⟩) 0 0)) w.heap.size 62 #[.slice A1 Y.D.zs.length c1, .int .i64 Y.D.size, .int .i64 Y.D.op, .int .i64 (Y.D.n : Int), .bool Y.D.down, .slice (some ⟨b, off, none⟩) 0 0, .slice Ah1 Y.happened.length ch1] := K03.out.set_ 5 _
              have h5 : Ref8 (wa.setCell ⟨w.heap.size, 5, none⟩ (.slice (some ⟨b, off, none⟩) 0 0)) { Y with coming := ([] : List EvV) } A1 c1 es1 (some ⟨b, off, none⟩) 0 Ah1 ch1 (fun k => (G k ∧ k < w.heap.size) ∨ w.heap.size + 2 ≤ k) := by
                have hx := H3.out.mods hmS (fun k hk _ e => by rcases hk with hk | hk <;> first | omega | (have := hk.2; omega))
                exact ⟨hx.ref, Hcom.out _ , ⟨by have := Hcc.out; simp; try omega, by have := Hcc.out.2; omega⟩, hx.hap, hx.hapG⟩
              have kr5 : Blk (wa.setCell ⟨w.heap.size, 5, none⟩ (.slice (some ⟨b, off, none⟩) 0 0)) (w.heap.size + 1) 62 #[.slice none 0 0, .int .i64 0, .int .i64 0, .int .i64 0, .bool false, .slice none 0 0, .slice none 0 0] := KR3.out.mods hmS (by omega)
              have ks5 : Blk (wa.setCell ⟨w.heap.size, 5, none⟩ (.slice (some ⟨b, off, none⟩) 0 0)) wq.heap.size 116 e.cells.toArray := Ks.out.mods hmS (by have := Hwq.out; omega)
              have HB5 := hide (HB3.out.trans (hmS.below HB3.out.size (fun k e => by omega)))
              clear hmS a0 a1 a2 a3 a4 a5 a6 f5
              generalize wa.setCell ⟨w.heap.size, 5, none⟩ (.slice (some ⟨b, off, none⟩) 0 0) = w5 at k05 h5 kr5 ks5 HB5 ⊢
              have hhap := R8.happen_any h5 Hlen8.out Hbd.out.zs (by have := Hcnt.out; show Y.happened.length < 65000; omega) e
              unfold agg8 EvV.agg at hhap
              have Hhap := hide hhap
              have K05 := hide k05
              have KR5 := hide kr5
              have Ks5 := hide ks5
              obtain ⟨a0, a1, a2, a3, a4, a5, a6, -⟩ := k05.seven
              clear hhap k05 kr5 ks5 h5
              go_wp2_with ((with_reducible refine wpList_load_mid ?g3 116 (.tmp 7) ?o3 wq.heap.size (0) ?x3 e.cells ?d3 ?r3 ?u3 ?f3 ?i3 ?_); (case g3 => exact rfl); (case o3 => exact rfl); (case x3 => exact rfl); (case r3 => exact e.range Ks5.out); (case u3 => exact Try.underlying116); (case f3 => exact rfl); (case i3 => exact E8.size _))
              refine Hhap.out.mono ?_
              rintro en w6 ⟨A6, c6, es6, Ac6, cc6, Ah6, ch6, rfl, h6, hb6⟩
              unfold agg8
              have k06 : Blk w6 w.heap.size 62 _ := (hb6.block _ K05.out.lt).trans K05.out
              have kr6 : Blk w6 (w.heap.size + 1) 62 #[.slice none 0 0, .int .i64 0, .int .i64 0, .int .i64 0, .bool false, .slice none 0 0, .slice none 0 0] := (hb6.block _ KR5.out.lt).trans KR5.out
              have HB6 := HB5.out.trans (hb6.mono HB5.out.size)
              have Hs5 : w.heap.size + 2 ≤ w5.heap.size := by have := KR5.out.lt; omega
              obtain ⟨Y6, hY6⟩ : ∃ Y6 : Dr, Y6 = ({ Y with coming := ([] : List EvV) } : Dr).happen e := ⟨_, rfl⟩
              rw [← hY6] at h6 ⊢
              have hlen6 : Y6.D.zs.length < 65536 := by
                have h1 := Hlen8.out
                rw [hY6]
                have : (({ Y with coming := ([] : List EvV) } : Dr).happen e).D.zs.length = Y.D.zs.length := Dr.happen_zlen _ _
                omega
              have hput := fun v0 v1 v2 v3 v4 v5 v6 => Mods.put7 (fun k => k = w.heap.size) w6 w.heap.size v0 v1 v2 v3 v4 v5 v6 rfl
              have Hrel : Hid (DueInv w G X (put7 w6 w.heap.size (.slice A6 Y6.D.zs.length c6) (.int .i64 Y6.D.size) (.int .i64 Y6.D.op) (.int .i64 (Y6.D.n : Int)) (.bool Y6.D.down) (.slice Ac6 Y6.coming.length cc6) (.slice Ah6 Y6.happened.length ch6))) := hide
                ⟨Y6, A6, c6, es6, Ac6, cc6, Ah6, ch6, by rw [hY6]; exact Hfin.out, by rw [hY6]; exact Hbd2.out, hlen6, (h6.mods (hput _ _ _ _ _ _ _) (fun k hk _ e => by
                  rcases hk with (hk | hk) | hk
                  · have := hk.2; omega
                  · omega
                  · omega)).mono (fun k hk => by
                  rcases hk with (hk | hk) | hk
                  · exact .inl hk
                  · exact .inr hk
                  · right; omega), k06.put7 _ _ _ _ _ _ _, kr6.mods (hput _ _ _ _ _ _ _) (by omega), HB6.trans ((hput _ _ _ _ _ _ _).below HB6.size (fun k e => by omega))⟩
              have Hms : Hid (left9 w.heap.size (put7 w6 w.heap.size (.slice A6 Y6.D.zs.length c6) (.int .i64 Y6.D.size) (.int .i64 Y6.D.op) (.int .i64 (Y6.D.n : Int)) (.bool Y6.D.down) (.slice Ac6 Y6.coming.length cc6) (.slice Ah6 Y6.happened.length ch6)) = (([] : List EvV)).length) := hide (by
                unfold left9
                rw [show World.cell? (put7 w6 w.heap.size _ _ _ _ _ _ _) ⟨w.heap.size, 5, none⟩ = _ from (k06.put7 _ _ _ _ _ _ _).cell 5]
                show Y6.coming.length = _
                rw [hY6, Dr.happen_coming])
              obtain ⟨b0, b1, b2, b3, b4, b5, b6, g0, g1, g2, g3, g4, g5, g6⟩ := k06.seven
              clear h6 hb6 hput k06 kr6 HB6 Hs5 Hhap a0 a1 a2 a3 a4 a5 a6 hlen6 hY6 Hfin Hbd2
              go_wp2_with fail
              go_roundw
              case rel => exact Hrel.out
              case measure => rw [Hms.out, Hmeas.out]; simp
            · have hcc2 : ¬ cc1 = 1 := hc1
              have hcc3 : (l.length : Int) + 1 ≤ (cc1 : Int) := by have := Hcc.out; omega
              have hcc4 : l.length + 1 ≤ cc1 := Hcc.out.1
              have hev3 : Evs wa (fun k => (G k ∧ k < w.heap.size) ∨ w.heap.size + 2 ≤ k) (some ⟨b, off + 68, none⟩) l := by
                have := H3.out.com
                rw [Hcm.out] at this
                exact this.tail
              have Hev3 := hide hev3
              have Hcom : Hid (∀ W : World, Mods (fun k => k = w.heap.size) wa W → Evs W (fun k => (G k ∧ k < w.heap.size) ∨ w.heap.size + 2 ≤ k) (some ⟨b, off + 68, none⟩) l) := hide (fun W hW => Hev3.out.mods hW (fun k hk _ e => by rcases hk with hk | hk <;> first | omega | (have := hk.2; omega)))
              clear hev3 Hev3 hc1
              go_upto_region 6 with (fail)
              have hmS : Mods (fun k => k = w.heap.size) wa (wa.setCell ⟨w.heap.size, 5, none⟩ (.slice (some ⟨b, off + 68, none⟩) l.length (cc1 - 1))) := (Mods.refl (fun k => k = w.heap.size) wa).setCell (p := ⟨w.heap.size, 5, none⟩) (.inl rfl) _
              have k05 : Blk (wa.setCell ⟨w.heap.size, 5, none⟩ (.slice (some ⟨b, off + 68, none⟩) l.length (cc1 - 1))) w.heap.size 62 #[.slice A1 Y.D.zs.length c1, .int .i64 Y.D.size, .int .i64 Y.D.op, .int .i64 (Y.D.n : Int), .bool Y.D.down, .slice (some ⟨b, off + 68, none⟩) l.length (cc1 - 1), .slice Ah1 Y.happened.length ch1] := K03.out.set_ 5 _
              have h5 : Ref8 (wa.setCell ⟨w.heap.size, 5, none⟩ (.slice (some ⟨b, off + 68, none⟩) l.length (cc1 - 1))) { Y with coming := l } A1 c1 es1 (some ⟨b, off + 68, none⟩) (cc1 - 1) Ah1 ch1 (fun k => (G k ∧ k < w.heap.size) ∨ w.heap.size + 2 ≤ k) := by
                have hx := H3.out.mods hmS (fun k hk _ e => by rcases hk with hk | hk <;> first | omega | (have := hk.2; omega))
                exact ⟨hx.ref, Hcom.out _ hmS, ⟨by have := Hcc.out; simp; try omega, by have := Hcc.out.2; omega⟩, hx.hap, hx.hapG⟩
              have kr5 : Blk (wa.setCell ⟨w.heap.size, 5, none⟩ (.slice (some ⟨b, off + 68, none⟩) l.length (cc1 - 1))) (w.heap.size + 1) 62 #[.slice none 0 0, .int .i64 0, .int .i64 0, .int .i64 0, .bool false, .slice none 0 0, .slice none 0 0] := KR3.out.mods hmS (by omega)
              have ks5 : Blk (wa.setCell ⟨w.heap.size, 5, none⟩ (.slice (some ⟨b, off + 68, none⟩) l.length (cc1 - 1))) wq.heap.size 116 e.cells.toArray := Ks.out.mods hmS (by have := Hwq.out; omega)
              have HB5 := hide (HB3.out.trans (hmS.below HB3.out.size (fun k e => by omega)))
              clear hmS a0 a1 a2 a3 a4 a5 a6 f5
              generalize wa.setCell ⟨w.heap.size, 5, none⟩ (.slice (some ⟨b, off + 68, none⟩) l.length (cc1 - 1)) = w5 at k05 h5 kr5 ks5 HB5 ⊢
              have hhap := R8.happen_any h5 Hlen8.out Hbd.out.zs (by have := Hcnt.out; show Y.happened.length < 65000; omega) e
              unfold agg8 EvV.agg at hhap
              have Hhap := hide hhap
              have K05 := hide k05
              have KR5 := hide kr5
              have Ks5 := hide ks5
              obtain ⟨a0, a1, a2, a3, a4, a5, a6, -⟩ := k05.seven
              clear hhap k05 kr5 ks5 h5
              go_wp2_with ((with_reducible refine wpList_load_mid ?g3 116 (.tmp 7) ?o3 wq.heap.size (0) ?x3 e.cells ?d3 ?r3 ?u3 ?f3 ?i3 ?_); (case g3 => exact rfl); (case o3 => exact rfl); (case x3 => exact rfl); (case r3 => exact e.range Ks5.out); (case u3 => exact Try.underlying116); (case f3 => exact rfl); (case i3 => exact E8.size _))
              refine Hhap.out.mono ?_
              rintro en w6 ⟨A6, c6, es6, Ac6, cc6, Ah6, ch6, rfl, h6, hb6⟩
              unfold agg8
              have k06 : Blk w6 w.heap.size 62 _ := (hb6.block _ K05.out.lt).trans K05.out
              have kr6 : Blk w6 (w.heap.size + 1) 62 #[.slice none 0 0, .int .i64 0, .int .i64 0, .int .i64 0, .bool false, .slice none 0 0, .slice none 0 0] := (hb6.block _ KR5.out.lt).trans KR5.out
              have HB6 := HB5.out.trans (hb6.mono HB5.out.size)
              have Hs5 : w.heap.size + 2 ≤ w5.heap.size := by have := KR5.out.lt; omega
              obtain ⟨Y6, hY6⟩ : ∃ Y6 : Dr, Y6 = ({ Y with coming := l } : Dr).happen e := ⟨_, rfl⟩
              rw [← hY6] at h6 ⊢
              have hlen6 : Y6.D.zs.length < 65536 := by
                have h1 := Hlen8.out
                rw [hY6]
                have : (({ Y with coming := l } : Dr).happen e).D.zs.length = Y.D.zs.length := Dr.happen_zlen _ _
                omega
              have hput := fun v0 v1 v2 v3 v4 v5 v6 => Mods.put7 (fun k => k = w.heap.size) w6 w.heap.size v0 v1 v2 v3 v4 v5 v6 rfl
              have Hrel : Hid (DueInv w G X (put7 w6 w.heap.size (.slice A6 Y6.D.zs.length c6) (.int .i64 Y6.D.size) (.int .i64 Y6.D.op) (.int .i64 (Y6.D.n : Int)) (.bool Y6.D.down) (.slice Ac6 Y6.coming.length cc6) (.slice Ah6 Y6.happened.length ch6))) := hide
                ⟨Y6, A6, c6, es6, Ac6, cc6, Ah6, ch6, by rw [hY6]; exact Hfin.out, by rw [hY6]; exact Hbd2.out, hlen6, (h6.mods (hput _ _ _ _ _ _ _) (fun k hk _ e => by
                  rcases hk with (hk | hk) | hk
                  · have := hk.2; omega
                  · omega
                  · omega)).mono (fun k hk => by
                  rcases hk with (hk | hk) | hk
                  · exact .inl hk
                  · exact .inr hk
                  · right; omega), k06.put7 _ _ _ _ _ _ _, kr6.mods (hput _ _ _ _ _ _ _) (by omega), HB6.trans ((hput _ _ _ _ _ _ _).below HB6.size (fun k e => by omega))⟩
              have Hms : Hid (left9 w.heap.size (put7 w6 w.heap.size (.slice A6 Y6.D.zs.length c6) (.int .i64 Y6.D.size) (.int .i64 Y6.D.op) (.int .i64 (Y6.D.n : Int)) (.bool Y6.D.down) (.slice Ac6 Y6.coming.length cc6) (.slice Ah6 Y6.happened.length ch6)) = (l).length) := hide (by
                unfold left9
                rw [show World.cell? (put7 w6 w.heap.size _ _ _ _ _ _ _) ⟨w.heap.size, 5, none⟩ = _ from (k06.put7 _ _ _ _ _ _ _).cell 5]
                show Y6.coming.length = _
                rw [hY6, Dr.happen_coming])
              obtain ⟨b0, b1, b2, b3, b4, b5, b6, g0, g1, g2, g3, g4, g5, g6⟩ := k06.seven
              clear h6 hb6 hput k06 kr6 HB6 Hs5 Hhap a0 a1 a2 a3 a4 a5 a6 hlen6 hY6 Hfin Hbd2
              go_wp2_with fail
              go_roundw
              case rel => exact Hrel.out
              case measure => rw [Hms.out, Hmeas.out]; simp
          · have dle : decide (e.at_ ≤ (Y.D.n : Int)) = false := decide_eq_false hle
            have Hfin := hide (Hdue.out.symm.trans (Dr.due_late Hcm.out hle))
            clear hle
            go_upto_region 3 with (fail)
            go_quiet (fail)
            clear hdn2
            have KR : Hid (Blk (wr.drewN nq) (w.heap.size + 1) 62 #[.slice none 0 0, .int .i64 0, .int .i64 0, .int .i64 0, .bool false, .slice none 0 0, .slice none 0 0]) := hide KRr.out
            have HR := hide (H1.out.mods ((Mods.refl (fun _ => False) wr).drewN nq) (fun _ _ _ h => h))
            have HBW := hide (HBr.out.trans ((Mods.refl (fun _ => False) wr).drewN nq |>.below HBr.out.size (fun _ h => h.elim)))
            have K0w : Blk (wr.drewN nq) w.heap.size 62 #[.slice A1 Y.D.zs.length c1, .int .i64 Y.D.size, .int .i64 Y.D.op, .int .i64 (Y.D.n : Int), .bool Y.D.down, .slice (some ⟨b, off, none⟩) Y.coming.length cc1, .slice Ah1 Y.happened.length ch1] := K0r.out
            clear a0 a1 a2 a3 a4 a5 a6
            generalize wr.drewN nq = wq at KR HR HBW K0w ⊢
            obtain ⟨a0, a1, a2, a3, a4, a5, a6, -⟩ := K0w.seven
            obtain ⟨r0, r1, r2, r3, r4, r5, r6, s0, s1, s2, s3, s4, s5, s6⟩ := KR.out.seven
            go_wp2_with fail
            refine bodyPost_ret (v := .agg #[.slice A1 Y.D.zs.length c1, .int .i64 Y.D.size, .int .i64 Y.D.op, .int .i64 (Y.D.n : Int), .bool Y.D.down, .slice (some ⟨b, off, none⟩) Y.coming.length cc1, .slice Ah1 Y.happened.length ch1]) ?_ rfl ?_
            · exact results_cell_row (fn := Try.f72) (p := 6) rfl _ _ (w.heap.size + 1) 62 _ (0, 0) _ rfl (KR.out.put7 _ _ _ _ _ _ _) Try.underlying62 rfl sizeD8
            · have hmR : ∀ v0 v1 v2 v3 v4 v5 v6, Mods (fun k => k = w.heap.size + 1) wq (put7 wq (w.heap.size + 1) v0 v1 v2 v3 v4 v5 v6) := fun v0 v1 v2 v3 v4 v5 v6 => Mods.put7 _ _ _ _ _ _ _ _ _ _ rfl
              have h9 := fun v0 v1 v2 v3 v4 v5 v6 => (HR.out.mods (hmR v0 v1 v2 v3 v4 v5 v6) (fun k hk _ e => by rcases hk with hk | hk <;> first | omega | (have := hk.2; omega))).mono (G' := fun k => G k ∨ w.heap.size ≤ k) (fun k hk => hk.imp (·.1) (fun h => by omega))
              rw [Hres.out, Hfin.out]
              exact ⟨A1, c1, _, (some ⟨b, off, none⟩), cc1, Ah1, ch1, rfl, h9 _ _ _ _ _ _ _, HBW.out.trans ((hmR _ _ _ _ _ _ _).below HBW.out.size (fun k e => by omega))⟩
  | false =>
    have hz : 0 ≤ z ∧ z < (X.D.zs.length : Int) := by simpa using hin
    have d0 : decide (z < 0) = false := decide_eq_false (by omega)
    have d1 : decide ((X.D.zs.length : Int) ≤ z) = false := decide_eq_false (by omega)
    clear hin hz
    go_enter Try.func72, Try.ntmps72
    go_upto_region 1 with (fail)
    generalize (w.alloc _).alloc _ = W2 at Hstart a0 ⊢
    go_wp2_with fail
    go_loopw [7] (fun _ wr => DueInv w G X wr) (fun _ wr => left9 w.heap.size wr)
    case atStart => exact Hstart.out
    case round =>
      obtain ⟨Y, A1, c1, es1, Ac1, cc1, Ah1, ch1, hdue, hbd, hlen8, h1, k0, kr, hb⟩ := hrel
      have Hbd := hide hbd
      have Hdue := hide hdue
      have Hlen8 := hide hlen8
      have KRr := hide kr
      have K0r := hide k0
      have HBr := hide hb
      have H1 := hide h1
      have Hmeas : Hid (left9 w.heap.size wr = Y.coming.length) := hide (by unfold left9; rw [show wr.cell? ⟨w.heap.size, 5, none⟩ = _ from k0.cell 5]; rfl)
      obtain ⟨a0, a1, a2, a3, a4, a5, a6, -⟩ := k0.seven
      clear h1 hbd hdue kr hb k0 hlen8
      by_cases hdn : Y.D.down = true
      · have hY := Dr.due_down hdn
        have Hfin := hide (Hdue.out.symm.trans hY)
        rw [hdn] at a4
        have ed : Hid (Y.D.down = true) := hide hdn
        clear hdn hY
        go_upto_region 3 with (fail)
        go_quiet (fail)
        have KR : Hid (Blk (wr.drewN nq) (w.heap.size + 1) 62 #[.slice none 0 0, .int .i64 0, .int .i64 0, .int .i64 0, .bool false, .slice none 0 0, .slice none 0 0]) := hide KRr.out
        have HR := hide (H1.out.mods ((Mods.refl (fun _ => False) wr).drewN nq) (fun _ _ _ h => h))
        have HBW := hide (HBr.out.trans ((Mods.refl (fun _ => False) wr).drewN nq |>.below HBr.out.size (fun _ h => h.elim)))
        have K0w : Blk (wr.drewN nq) w.heap.size 62 #[.slice A1 Y.D.zs.length c1, .int .i64 Y.D.size, .int .i64 Y.D.op, .int .i64 (Y.D.n : Int), .bool Y.D.down, .slice Ac1 Y.coming.length cc1, .slice Ah1 Y.happened.length ch1] := K0r.out
        clear a0 a1 a2 a3 a4 a5 a6
        generalize wr.drewN nq = wq at KR HR HBW K0w ⊢
        obtain ⟨a0, a1, a2, a3, a4, a5, a6, -⟩ := K0w.seven
        obtain ⟨r0, r1, r2, r3, r4, r5, r6, s0, s1, s2, s3, s4, s5, s6⟩ := KR.out.seven
        go_wp2_with fail
        refine bodyPost_ret (v := .agg #[.slice A1 Y.D.zs.length c1, .int .i64 Y.D.size, .int .i64 Y.D.op, .int .i64 (Y.D.n : Int), .bool Y.D.down, .slice Ac1 Y.coming.length cc1, .slice Ah1 Y.happened.length ch1]) ?_ rfl ?_
        · exact results_cell_row (fn := Try.f72) (p := 6) rfl _ _ (w.heap.size + 1) 62 _ (0, 0) _ rfl (KR.out.put7 _ _ _ _ _ _ _) Try.underlying62 rfl sizeD8
        · have hmR : ∀ v0 v1 v2 v3 v4 v5 v6, Mods (fun k => k = w.heap.size + 1) wq (put7 wq (w.heap.size + 1) v0 v1 v2 v3 v4 v5 v6) := fun v0 v1 v2 v3 v4 v5 v6 => Mods.put7 _ _ _ _ _ _ _ _ _ _ rfl
          have h9 := fun v0 v1 v2 v3 v4 v5 v6 => (HR.out.mods (hmR v0 v1 v2 v3 v4 v5 v6) (fun k hk _ e => by rcases hk with hk | hk <;> first | omega | (have := hk.2; omega))).mono (G' := fun k => G k ∨ w.heap.size ≤ k) (fun k hk => hk.imp (·.1) (fun h => by omega))
          rw [Hres.out, Hfin.out]
          exact ⟨A1, c1, _, Ac1, cc1, Ah1, ch1, rfl, h9 _ _ _ _ _ _ _, HBW.out.trans ((hmR _ _ _ _ _ _ _).below HBW.out.size (fun k e => by omega))⟩
      · have hdn2 : Y.D.down = false := by simpa using hdn
        rw [hdn2] at a4
        clear hdn
        rcases hcm : Y.coming with _ | ⟨e, l⟩
        · have hY := Dr.due_nil hcm
          have Hfin := hide (Hdue.out.symm.trans hY)
          rw [hcm] at a5
          have Hcm := hide hcm
          clear hcm hY
          go_upto_region 3 with (fail)
          go_quiet (fail)
          clear hdn2
          have KR : Hid (Blk (wr.drewN nq) (w.heap.size + 1) 62 #[.slice none 0 0, .int .i64 0, .int .i64 0, .int .i64 0, .bool false, .slice none 0 0, .slice none 0 0]) := hide KRr.out
          have HR := hide (H1.out.mods ((Mods.refl (fun _ => False) wr).drewN nq) (fun _ _ _ h => h))
          have HBW := hide (HBr.out.trans ((Mods.refl (fun _ => False) wr).drewN nq |>.below HBr.out.size (fun _ h => h.elim)))
          have K0w : Blk (wr.drewN nq) w.heap.size 62 #[.slice A1 Y.D.zs.length c1, .int .i64 Y.D.size, .int .i64 Y.D.op, .int .i64 (Y.D.n : Int), .bool Y.D.down, .slice Ac1 Y.coming.length cc1, .slice Ah1 Y.happened.length ch1] := K0r.out
          clear a0 a1 a2 a3 a4 a5 a6
          generalize wr.drewN nq = wq at KR HR HBW K0w ⊢
          obtain ⟨a0, a1, a2, a3, a4, a5, a6, -⟩ := K0w.seven
          obtain ⟨r0, r1, r2, r3, r4, r5, r6, s0, s1, s2, s3, s4, s5, s6⟩ := KR.out.seven
          go_wp2_with fail
          refine bodyPost_ret (v := .agg #[.slice A1 Y.D.zs.length c1, .int .i64 Y.D.size, .int .i64 Y.D.op, .int .i64 (Y.D.n : Int), .bool Y.D.down, .slice Ac1 Y.coming.length cc1, .slice Ah1 Y.happened.length ch1]) ?_ rfl ?_
          · exact results_cell_row (fn := Try.f72) (p := 6) rfl _ _ (w.heap.size + 1) 62 _ (0, 0) _ rfl (KR.out.put7 _ _ _ _ _ _ _) Try.underlying62 rfl sizeD8
          · have hmR : ∀ v0 v1 v2 v3 v4 v5 v6, Mods (fun k => k = w.heap.size + 1) wq (put7 wq (w.heap.size + 1) v0 v1 v2 v3 v4 v5 v6) := fun v0 v1 v2 v3 v4 v5 v6 => Mods.put7 _ _ _ _ _ _ _ _ _ _ rfl
            have h9 := fun v0 v1 v2 v3 v4 v5 v6 => (HR.out.mods (hmR v0 v1 v2 v3 v4 v5 v6) (fun k hk _ e => by rcases hk with hk | hk <;> first | omega | (have := hk.2; omega))).mono (G' := fun k => G k ∨ w.heap.size ≤ k) (fun k hk => hk.imp (·.1) (fun h => by omega))
            rw [Hres.out, Hfin.out]
            exact ⟨A1, c1, _, Ac1, cc1, Ah1, ch1, rfl, h9 _ _ _ _ _ _ _, HBW.out.trans ((hmR _ _ _ _ _ _ _).below HBW.out.size (fun k e => by omega))⟩
        · have hev := H1.out.com
          rw [hcm] at hev a5
          rw [hcm, List.length_cons] at Hmeas
          have hcc := H1.out.comc
          have hcnt := Hbd.out.cnt
          rw [hcm] at hcc hcnt
          simp only [List.length_cons] at a5 hcc hcnt
          obtain ⟨b, off, rfl, hgb, hbl, hr⟩ := hev (by simp)
          have hr0 := hr 0 (by simp)
          simp only [List.getElem_cons_zero, Nat.zero_mul, Nat.add_zero] at hr0
          obtain ⟨e0, -⟩ := EvV.four hr0
          have Hr0 := hide hr0
          have Hev := hide hev
          have Hcc := hide hcc
          have Hcnt := hide hcnt
          have Hgb := hide (And.intro hgb hbl)
          have Hcm := hide hcm
          have dl : decide ((0 : Int) < (l.length : Int) + 1) = true := decide_eq_true (by omega)
          have dl2 : decide (0 < l.length + 1) = true := decide_eq_true (by omega)
          clear hr hr0 hev hcc hcnt hgb hbl hcm
          by_cases hle : e.at_ ≤ (Y.D.n : Int)
          · have dle : decide (e.at_ ≤ (Y.D.n : Int)) = true := decide_eq_true hle
            have Hfin := hide ((Dr.due_of Hcm.out hdn2 hle).symm.trans Hdue.out)
            have Hbd2 := hide (Hbd.out.happen Hcm.out)
            have Hdn := hide hdn2
            clear hle hdn2
            go_upto_region 3 with (fail)
            go_quiet (fail)
            have hmq := (Mods.refl (fun _ => False) wr).drewN nq
            have H2 := hide (H1.out.mods hmq (fun _ _ _ h => h))
            have k02 : Blk (wr.drewN nq) w.heap.size 62 #[.slice A1 Y.D.zs.length c1, .int .i64 Y.D.size, .int .i64 Y.D.op, .int .i64 (Y.D.n : Int), .bool Y.D.down, .slice (some ⟨b, off, none⟩) (l.length + 1) cc1, .slice Ah1 Y.happened.length ch1] := by
              have := K0r.out
              rw [Hcm.out] at this
              exact this
            have kr2 : Blk (wr.drewN nq) (w.heap.size + 1) 62 #[.slice none 0 0, .int .i64 0, .int .i64 0, .int .i64 0, .bool false, .slice none 0 0, .slice none 0 0] := KRr.out
            have HB2 := hide (HBr.out.trans (hmq.below HBr.out.size (fun _ h => h.elim)))
            have Hr2 : Hid ((wr.drewN nq).rangeAt b off e.cells) := hide Hr0.out
            have hbl2 : b < (wr.drewN nq).heap.size := Hgb.out.2
            clear a0 a1 a2 a3 a4 a5 a6 e0 hmq HBr KRr K0r Hr0
            generalize wr.drewN nq = wq at H2 k02 kr2 HB2 Hr2 hbl2 ⊢
            obtain ⟨a0, a1, a2, a3, a4, a5, a6, -⟩ := k02.seven
            have HZ := hide (Blk.new wq 116 EvV.zero.cells.toArray)
            have hba : Below wq.heap.size wq ((wq.alloc (.cells EvV.zero.cells.toArray 116)).setRow wq.heap.size e.cells.toArray) := below_setRow ((Below.refl _ wq).alloc (Nat.le_refl _) _) (Nat.le_refl _) _
            have hks := HZ.out.setRow e.cells.toArray
            have K02 := hide k02
            have KR2 := hide kr2
            have Hbl2 := hide hbl2
            clear k02 kr2 hbl2
            go_upto_region 5 with (first | ((with_reducible refine wpList_load_mid ?g1 116 (.tmp 46) ?o1 b (off) ?x1 e.cells ?d1 ?r1 ?u1 ?f1 ?i1 ?_); (case g1 => exact rfl); (case o1 => exact rfl); (case x1 => exact rfl); (case r1 => exact Hr2.out); (case u1 => exact Try.underlying116); (case f1 => exact rfl); (case i1 => exact E8.size _)) | ((with_reducible refine wpList_store_row ?g2 116 (.tmp 7) (.tmp 47) ?o2 wq.heap.size e.cells.toArray ?x2 ?y2 116 EvV.zero.cells.toArray ?k2 ?s2 ?l2 ?a2 ?_); (case g2 => exact rfl); (case o2 => exact rfl); (case x2 => exact rfl); (case y2 => exact rfl); (case k2 => exact HZ.out); (case s2 => exact E8.sizeR _); (case l2 => simp [EvV.length]); (case a2 => exact EvV.all _)))
            generalize hWA : World.setRow (World.alloc wq _) _ _ = wa
            have hWA' : (wq.alloc (.cells EvV.zero.cells.toArray 116)).setRow wq.heap.size e.cells.toArray = wa := hWA
            rw [hWA'] at hba hks
            clear hWA hWA' HZ a0 a1 a2 a3 a4 a5 a6
            have H3 := hide (H2.out.below hba)
            have k03 : Blk wa w.heap.size 62 _ := (hba.block _ K02.out.lt).trans K02.out
            have kr3 : Blk wa (w.heap.size + 1) 62 #[.slice none 0 0, .int .i64 0, .int .i64 0, .int .i64 0, .bool false, .slice none 0 0, .slice none 0 0] := (hba.block _ KR2.out.lt).trans KR2.out
            have HB3 := hide (HB2.out.trans (hba.mono HB2.out.size))
            have Hwq : Hid (w.heap.size + 2 ≤ wq.heap.size) := hide (by have := KR2.out.lt; omega)
            obtain ⟨a0, a1, a2, a3, a4, a5, a6, -, -, -, -, -, f5, -⟩ := k03.seven
            have K03 := hide k03
            have KR3 := hide kr3
            have Ks := hide hks
            clear k03 kr3 hks hba
            by_cases hc1 : cc1 = 1
            · have hl0 : l = [] := List.length_eq_zero_iff.1 (by have := Hcc.out; omega)
              subst hc1
              subst hl0
              simp only [List.length_nil, Nat.zero_add] at a5 K03
              have hcom : ∀ W : World, Evs W (fun k => (G k ∧ k < w.heap.size) ∨ w.heap.size + 2 ≤ k) (some ⟨b, off, none⟩) ([] : List EvV) := fun W => Evs.nil _ _ _
              have Hcom := hide hcom
              clear hcom
              go_upto_region 6 with (fail)
              have hmS : Mods (fun k => k = w.heap.size) wa (wa.setCell ⟨w.heap.size, 5, none⟩ (.slice (some ⟨b, off, none⟩) 0 0)) := (Mods.refl (fun k => k = w.heap.size) wa).setCell (p := ⟨w.heap.size, 5, none⟩) (.inl rfl) _
              have k05 : Blk (wa.setCell ⟨w.heap.size, 5, none⟩ (.slice (some ⟨b, off, none⟩) 0 0)) w.heap.size 62 #[.slice A1 Y.D.zs.length c1, .int .i64 Y.D.size, .int .i64 Y.D.op, .int .i64 (Y.D.n : Int), .bool Y.D.down, .slice (some ⟨b, off, none⟩) 0 0, .slice Ah1 Y.happened.length ch1] := K03.out.set_ 5 _
              have h5 : Ref8 (wa.setCell ⟨w.heap.size, 5, none⟩ (.slice (some ⟨b, off, none⟩) 0 0)) { Y with coming := ([] : List EvV) } A1 c1 es1 (some ⟨b, off, none⟩) 0 Ah1 ch1 (fun k => (G k ∧ k < w.heap.size) ∨ w.heap.size + 2 ≤ k) := by
                have hx := H3.out.mods hmS (fun k hk _ e => by rcases hk with hk | hk <;> first | omega | (have := hk.2; omega))
                exact ⟨hx.ref, Hcom.out _ , ⟨by have := Hcc.out; simp; try omega, by have := Hcc.out.2; omega⟩, hx.hap, hx.hapG⟩
              have kr5 : Blk (wa.setCell ⟨w.heap.size, 5, none⟩ (.slice (some ⟨b, off, none⟩) 0 0)) (w.heap.size + 1) 62 #[.slice none 0 0, .int .i64 0, .int .i64 0, .int .i64 0, .bool false, .slice none 0 0, .slice none 0 0] := KR3.out.mods hmS (by omega)
              have ks5 : Blk (wa.setCell ⟨w.heap.size, 5, none⟩ (.slice (some ⟨b, off, none⟩) 0 0)) wq.heap.size 116 e.cells.toArray := Ks.out.mods hmS (by have := Hwq.out; omega)
              have HB5 := hide (HB3.out.trans (hmS.below HB3.out.size (fun k e => by omega)))
              clear hmS a0 a1 a2 a3 a4 a5 a6 f5
              generalize wa.setCell ⟨w.heap.size, 5, none⟩ (.slice (some ⟨b, off, none⟩) 0 0) = w5 at k05 h5 kr5 ks5 HB5 ⊢
              have hhap := R8.happen_any h5 Hlen8.out Hbd.out.zs (by have := Hcnt.out; show Y.happened.length < 65000; omega) e
              unfold agg8 EvV.agg at hhap
              have Hhap := hide hhap
              have K05 := hide k05
              have KR5 := hide kr5
              have Ks5 := hide ks5
              obtain ⟨a0, a1, a2, a3, a4, a5, a6, -⟩ := k05.seven
              clear hhap k05 kr5 ks5 h5
              go_wp2_with ((with_reducible refine wpList_load_mid ?g3 116 (.tmp 7) ?o3 wq.heap.size (0) ?x3 e.cells ?d3 ?r3 ?u3 ?f3 ?i3 ?_); (case g3 => exact rfl); (case o3 => exact rfl); (case x3 => exact rfl); (case r3 => exact e.range Ks5.out); (case u3 => exact Try.underlying116); (case f3 => exact rfl); (case i3 => exact E8.size _))
              refine Hhap.out.mono ?_
              rintro en w6 ⟨A6, c6, es6, Ac6, cc6, Ah6, ch6, rfl, h6, hb6⟩
              unfold agg8
              have k06 : Blk w6 w.heap.size 62 _ := (hb6.block _ K05.out.lt).trans K05.out
              have kr6 : Blk w6 (w.heap.size + 1) 62 #[.slice none 0 0, .int .i64 0, .int .i64 0, .int .i64 0, .bool false, .slice none 0 0, .slice none 0 0] := (hb6.block _ KR5.out.lt).trans KR5.out
              have HB6 := HB5.out.trans (hb6.mono HB5.out.size)
              have Hs5 : w.heap.size + 2 ≤ w5.heap.size := by have := KR5.out.lt; omega
              obtain ⟨Y6, hY6⟩ : ∃ Y6 : Dr, Y6 = ({ Y with coming := ([] : List EvV) } : Dr).happen e := ⟨_, rfl⟩
              rw [← hY6] at h6 ⊢
              have hlen6 : Y6.D.zs.length < 65536 := by
                have h1 := Hlen8.out
                rw [hY6]
                have : (({ Y with coming := ([] : List EvV) } : Dr).happen e).D.zs.length = Y.D.zs.length := Dr.happen_zlen _ _
                omega
              have hput := fun v0 v1 v2 v3 v4 v5 v6 => Mods.put7 (fun k => k = w.heap.size) w6 w.heap.size v0 v1 v2 v3 v4 v5 v6 rfl
              have Hrel : Hid (DueInv w G X (put7 w6 w.heap.size (.slice A6 Y6.D.zs.length c6) (.int .i64 Y6.D.size) (.int .i64 Y6.D.op) (.int .i64 (Y6.D.n : Int)) (.bool Y6.D.down) (.slice Ac6 Y6.coming.length cc6) (.slice Ah6 Y6.happened.length ch6))) := hide
                ⟨Y6, A6, c6, es6, Ac6, cc6, Ah6, ch6, by rw [hY6]; exact Hfin.out, by rw [hY6]; exact Hbd2.out, hlen6, (h6.mods (hput _ _ _ _ _ _ _) (fun k hk _ e => by
                  rcases hk with (hk | hk) | hk
                  · have := hk.2; omega
                  · omega
                  · omega)).mono (fun k hk => by
                  rcases hk with (hk | hk) | hk
                  · exact .inl hk
                  · exact .inr hk
                  · right; omega), k06.put7 _ _ _ _ _ _ _, kr6.mods (hput _ _ _ _ _ _ _) (by omega), HB6.trans ((hput _ _ _ _ _ _ _).below HB6.size (fun k e => by omega))⟩
              have Hms : Hid (left9 w.heap.size (put7 w6 w.heap.size (.slice A6 Y6.D.zs.length c6) (.int .i64 Y6.D.size) (.int .i64 Y6.D.op) (.int .i64 (Y6.D.n : Int)) (.bool Y6.D.down) (.slice Ac6 Y6.coming.length cc6) (.slice Ah6 Y6.happened.length ch6)) = (([] : List EvV)).length) := hide (by
                unfold left9
                rw [show World.cell? (put7 w6 w.heap.size _ _ _ _ _ _ _) ⟨w.heap.size, 5, none⟩ = _ from (k06.put7 _ _ _ _ _ _ _).cell 5]
                show Y6.coming.length = _
                rw [hY6, Dr.happen_coming])
              obtain ⟨b0, b1, b2, b3, b4, b5, b6, g0, g1, g2, g3, g4, g5, g6⟩ := k06.seven
              clear h6 hb6 hput k06 kr6 HB6 Hs5 Hhap a0 a1 a2 a3 a4 a5 a6 hlen6 hY6 Hfin Hbd2
              go_wp2_with fail
              go_roundw
              case rel => exact Hrel.out
              case measure => rw [Hms.out, Hmeas.out]; simp
            · have hcc2 : ¬ cc1 = 1 := hc1
              have hcc3 : (l.length : Int) + 1 ≤ (cc1 : Int) := by have := Hcc.out; omega
              have hcc4 : l.length + 1 ≤ cc1 := Hcc.out.1
              have hev3 : Evs wa (fun k => (G k ∧ k < w.heap.size) ∨ w.heap.size + 2 ≤ k) (some ⟨b, off + 68, none⟩) l := by
                have := H3.out.com
                rw [Hcm.out] at this
                exact this.tail
              have Hev3 := hide hev3
              have Hcom : Hid (∀ W : World, Mods (fun k => k = w.heap.size) wa W → Evs W (fun k => (G k ∧ k < w.heap.size) ∨ w.heap.size + 2 ≤ k) (some ⟨b, off + 68, none⟩) l) := hide (fun W hW => Hev3.out.mods hW (fun k hk _ e => by rcases hk with hk | hk <;> first | omega | (have := hk.2; omega)))
              clear hev3 Hev3 hc1
              go_upto_region 6 with (fail)
              have hmS : Mods (fun k => k = w.heap.size) wa (wa.setCell ⟨w.heap.size, 5, none⟩ (.slice (some ⟨b, off + 68, none⟩) l.length (cc1 - 1))) := (Mods.refl (fun k => k = w.heap.size) wa).setCell (p := ⟨w.heap.size, 5, none⟩) (.inl rfl) _
              have k05 : Blk (wa.setCell ⟨w.heap.size, 5, none⟩ (.slice (some ⟨b, off + 68, none⟩) l.length (cc1 - 1))) w.heap.size 62 #[.slice A1 Y.D.zs.length c1, .int .i64 Y.D.size, .int .i64 Y.D.op, .int .i64 (Y.D.n : Int), .bool Y.D.down, .slice (some ⟨b, off + 68, none⟩) l.length (cc1 - 1), .slice Ah1 Y.happened.length ch1] := K03.out.set_ 5 _
              have h5 : Ref8 (wa.setCell ⟨w.heap.size, 5, none⟩ (.slice (some ⟨b, off + 68, none⟩) l.length (cc1 - 1))) { Y with coming := l } A1 c1 es1 (some ⟨b, off + 68, none⟩) (cc1 - 1) Ah1 ch1 (fun k => (G k ∧ k < w.heap.size) ∨ w.heap.size + 2 ≤ k) := by
                have hx := H3.out.mods hmS (fun k hk _ e => by rcases hk with hk | hk <;> first | omega | (have := hk.2; omega))
                exact ⟨hx.ref, Hcom.out _ hmS, ⟨by have := Hcc.out; simp; try omega, by have := Hcc.out.2; omega⟩, hx.hap, hx.hapG⟩
              have kr5 : Blk (wa.setCell ⟨w.heap.size, 5, none⟩ (.slice (some ⟨b, off + 68, none⟩) l.length (cc1 - 1))) (w.heap.size + 1) 62 #[.slice none 0 0, .int .i64 0, .int .i64 0, .int .i64 0, .bool false, .slice none 0 0, .slice none 0 0] := KR3.out.mods hmS (by omega)
              have ks5 : Blk (wa.setCell ⟨w.heap.size, 5, none⟩ (.slice (some ⟨b, off + 68, none⟩) l.length (cc1 - 1))) wq.heap.size 116 e.cells.toArray := Ks.out.mods hmS (by have := Hwq.out; omega)
              have HB5 := hide (HB3.out.trans (hmS.below HB3.out.size (fun k e => by omega)))
              clear hmS a0 a1 a2 a3 a4 a5 a6 f5
              generalize wa.setCell ⟨w.heap.size, 5, none⟩ (.slice (some ⟨b, off + 68, none⟩) l.length (cc1 - 1)) = w5 at k05 h5 kr5 ks5 HB5 ⊢
              have hhap := R8.happen_any h5 Hlen8.out Hbd.out.zs (by have := Hcnt.out; show Y.happened.length < 65000; omega) e
              unfold agg8 EvV.agg at hhap
              have Hhap := hide hhap
              have K05 := hide k05
              have KR5 := hide kr5
              have Ks5 := hide ks5
              obtain ⟨a0, a1, a2, a3, a4, a5, a6, -⟩ := k05.seven
              clear hhap k05 kr5 ks5 h5
              go_wp2_with ((with_reducible refine wpList_load_mid ?g3 116 (.tmp 7) ?o3 wq.heap.size (0) ?x3 e.cells ?d3 ?r3 ?u3 ?f3 ?i3 ?_); (case g3 => exact rfl); (case o3 => exact rfl); (case x3 => exact rfl); (case r3 => exact e.range Ks5.out); (case u3 => exact Try.underlying116); (case f3 => exact rfl); (case i3 => exact E8.size _))
              refine Hhap.out.mono ?_
              rintro en w6 ⟨A6, c6, es6, Ac6, cc6, Ah6, ch6, rfl, h6, hb6⟩
              unfold agg8
              have k06 : Blk w6 w.heap.size 62 _ := (hb6.block _ K05.out.lt).trans K05.out
              have kr6 : Blk w6 (w.heap.size + 1) 62 #[.slice none 0 0, .int .i64 0, .int .i64 0, .int .i64 0, .bool false, .slice none 0 0, .slice none 0 0] := (hb6.block _ KR5.out.lt).trans KR5.out
              have HB6 := HB5.out.trans (hb6.mono HB5.out.size)
              have Hs5 : w.heap.size + 2 ≤ w5.heap.size := by have := KR5.out.lt; omega
              obtain ⟨Y6, hY6⟩ : ∃ Y6 : Dr, Y6 = ({ Y with coming := l } : Dr).happen e := ⟨_, rfl⟩
              rw [← hY6] at h6 ⊢
              have hlen6 : Y6.D.zs.length < 65536 := by
                have h1 := Hlen8.out
                rw [hY6]
                have : (({ Y with coming := l } : Dr).happen e).D.zs.length = Y.D.zs.length := Dr.happen_zlen _ _
                omega
              have hput := fun v0 v1 v2 v3 v4 v5 v6 => Mods.put7 (fun k => k = w.heap.size) w6 w.heap.size v0 v1 v2 v3 v4 v5 v6 rfl
              have Hrel : Hid (DueInv w G X (put7 w6 w.heap.size (.slice A6 Y6.D.zs.length c6) (.int .i64 Y6.D.size) (.int .i64 Y6.D.op) (.int .i64 (Y6.D.n : Int)) (.bool Y6.D.down) (.slice Ac6 Y6.coming.length cc6) (.slice Ah6 Y6.happened.length ch6))) := hide
                ⟨Y6, A6, c6, es6, Ac6, cc6, Ah6, ch6, by rw [hY6]; exact Hfin.out, by rw [hY6]; exact Hbd2.out, hlen6, (h6.mods (hput _ _ _ _ _ _ _) (fun k hk _ e => by
                  rcases hk with (hk | hk) | hk
                  · have := hk.2; omega
                  · omega
                  · omega)).mono (fun k hk => by
                  rcases hk with (hk | hk) | hk
                  · exact .inl hk
                  · exact .inr hk
                  · right; omega), k06.put7 _ _ _ _ _ _ _, kr6.mods (hput _ _ _ _ _ _ _) (by omega), HB6.trans ((hput _ _ _ _ _ _ _).below HB6.size (fun k e => by omega))⟩
              have Hms : Hid (left9 w.heap.size (put7 w6 w.heap.size (.slice A6 Y6.D.zs.length c6) (.int .i64 Y6.D.size) (.int .i64 Y6.D.op) (.int .i64 (Y6.D.n : Int)) (.bool Y6.D.down) (.slice Ac6 Y6.coming.length cc6) (.slice Ah6 Y6.happened.length ch6)) = (l).length) := hide (by
                unfold left9
                rw [show World.cell? (put7 w6 w.heap.size _ _ _ _ _ _ _) ⟨w.heap.size, 5, none⟩ = _ from (k06.put7 _ _ _ _ _ _ _).cell 5]
                show Y6.coming.length = _
                rw [hY6, Dr.happen_coming])
              obtain ⟨b0, b1, b2, b3, b4, b5, b6, g0, g1, g2, g3, g4, g5, g6⟩ := k06.seven
              clear h6 hb6 hput k06 kr6 HB6 Hs5 Hhap a0 a1 a2 a3 a4 a5 a6 hlen6 hY6 Hfin Hbd2
              go_wp2_with fail
              go_roundw
              case rel => exact Hrel.out
              case measure => rw [Hms.out, Hmeas.out]; simp
          · have dle : decide (e.at_ ≤ (Y.D.n : Int)) = false := decide_eq_false hle
            have Hfin := hide (Hdue.out.symm.trans (Dr.due_late Hcm.out hle))
            clear hle
            go_upto_region 3 with (fail)
            go_quiet (fail)
            clear hdn2
            have KR : Hid (Blk (wr.drewN nq) (w.heap.size + 1) 62 #[.slice none 0 0, .int .i64 0, .int .i64 0, .int .i64 0, .bool false, .slice none 0 0, .slice none 0 0]) := hide KRr.out
            have HR := hide (H1.out.mods ((Mods.refl (fun _ => False) wr).drewN nq) (fun _ _ _ h => h))
            have HBW := hide (HBr.out.trans ((Mods.refl (fun _ => False) wr).drewN nq |>.below HBr.out.size (fun _ h => h.elim)))
            have K0w : Blk (wr.drewN nq) w.heap.size 62 #[.slice A1 Y.D.zs.length c1, .int .i64 Y.D.size, .int .i64 Y.D.op, .int .i64 (Y.D.n : Int), .bool Y.D.down, .slice (some ⟨b, off, none⟩) Y.coming.length cc1, .slice Ah1 Y.happened.length ch1] := K0r.out
            clear a0 a1 a2 a3 a4 a5 a6
            generalize wr.drewN nq = wq at KR HR HBW K0w ⊢
            obtain ⟨a0, a1, a2, a3, a4, a5, a6, -⟩ := K0w.seven
            obtain ⟨r0, r1, r2, r3, r4, r5, r6, s0, s1, s2, s3, s4, s5, s6⟩ := KR.out.seven
            go_wp2_with fail
            refine bodyPost_ret (v := .agg #[.slice A1 Y.D.zs.length c1, .int .i64 Y.D.size, .int .i64 Y.D.op, .int .i64 (Y.D.n : Int), .bool Y.D.down, .slice (some ⟨b, off, none⟩) Y.coming.length cc1, .slice Ah1 Y.happened.length ch1]) ?_ rfl ?_
            · exact results_cell_row (fn := Try.f72) (p := 6) rfl _ _ (w.heap.size + 1) 62 _ (0, 0) _ rfl (KR.out.put7 _ _ _ _ _ _ _) Try.underlying62 rfl sizeD8
            · have hmR : ∀ v0 v1 v2 v3 v4 v5 v6, Mods (fun k => k = w.heap.size + 1) wq (put7 wq (w.heap.size + 1) v0 v1 v2 v3 v4 v5 v6) := fun v0 v1 v2 v3 v4 v5 v6 => Mods.put7 _ _ _ _ _ _ _ _ _ _ rfl
              have h9 := fun v0 v1 v2 v3 v4 v5 v6 => (HR.out.mods (hmR v0 v1 v2 v3 v4 v5 v6) (fun k hk _ e => by rcases hk with hk | hk <;> first | omega | (have := hk.2; omega))).mono (G' := fun k => G k ∨ w.heap.size ≤ k) (fun k hk => hk.imp (·.1) (fun h => by omega))
              rw [Hres.out, Hfin.out]
              exact ⟨A1, c1, _, (some ⟨b, off, none⟩), cc1, Ah1, ch1, rfl, h9 _ _ _ _ _ _ _, HBW.out.trans ((hmR _ _ _ _ _ _ _).below HBW.out.size (fun k e => by omega))⟩
end
end R8
end Go.Proofs.Ytdinbhanekpjoaa
