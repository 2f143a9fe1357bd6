/-
  The document's device: Revive.
-/
import Derived.Test.YtdinbhanekpjoaaR07h
namespace Go.Proofs.Ytdinbhanekpjoaa.R7
open Go.RowKit
section
variable {w : World} {D : Dv} {A : Option Addr} {c : Nat} {es : List RZ} {G : Nat → Prop}
set_option maxRecDepth 100000 in
set_option maxHeartbeats 4000000 in
theorem revive_any (h : RefIs w D A c es G) (hl : D.zs.length < 65536) (hL : ∀ x ∈ D.zs, x.L.length < 65536 ∧ x.safe ≤ x.L.length ∧ x.state ≤ 4 ∧ x.size = D.size) (K : Option Addr) (kc : Nat) (keep : List Int) (hK : DM.CameInts w K keep) (hkl : keep.length ≤ maxLen) :
    Calls Try.prog 53 #[.agg #[.slice A D.zs.length c, .int .i64 D.size, .int .i64 D.op, .int .i64 (D.n : Int), .bool D.down], .slice K keep.length kc] w (Put w G (D.revive keep)) := by
  unfold maxLen at hkl
  have h' := hide h
  have Hl := hide hl
  have HKc := hide hK
  have HL := hide hL
  by_cases hd : D.down = true
  · have hfin := hide (Dv.revive_down keep hd)
    have hB : Below w.heap.size w ((w.alloc (.cells #[.slice A D.zs.length c, .int .i64 D.size, .int .i64 D.op, .int .i64 (D.n : Int), .bool true] 31)).alloc (.cells #[.slice none 0 0, .int .i64 0, .int .i64 0, .int .i64 0, .bool false] 31)) := ((Below.refl _ w).alloc (Nat.le_refl _) _).alloc (by simp) _
    have k0 := (Blk.new w 31 #[.slice A D.zs.length c, .int .i64 D.size, .int .i64 D.op, .int .i64 (D.n : Int), .bool true]).alloc (.cells #[.slice none 0 0, .int .i64 0, .int .i64 0, .int .i64 0, .bool false] 31)
    have k1 := Blk.new (w.alloc (.cells #[.slice A D.zs.length c, .int .i64 D.size, .int .i64 D.op, .int .i64 (D.n : Int), .bool true] 31)) 31 #[.slice none 0 0, .int .i64 0, .int .i64 0, .int .i64 0, .bool false]
    rw [World.size_alloc] at k1
    have h0 : Held w G D ((w.alloc (.cells #[.slice A D.zs.length c, .int .i64 D.size, .int .i64 D.op, .int .i64 (D.n : Int), .bool true] 31)).alloc (.cells #[.slice none 0 0, .int .i64 0, .int .i64 0, .int .i64 0, .bool false] 31)) := ⟨A, c, es, by rw [hd]; exact k0, k1, (h.tight.below hB).mono (fun _ h => .inl h), hB⟩
    have H0 := hide h0
    have Hd := hide hd
    rw [hd]
    clear h hl hB h0 hd k0 k1 hK hL
    go_enter Try.func53, Try.ntmps53
    go_wp2_with fail
    generalize (w.alloc (.cells #[.slice A D.zs.length c, .int .i64 D.size, .int .i64 D.op, .int .i64 (D.n : Int), .bool true] 31)).alloc (.cells #[.slice none 0 0, .int .i64 0, .int .i64 0, .int .i64 0, .bool false] 31) = W2 at H0 ⊢
    go_loopw [5, 6] (fun i _ wr => ∃ k : Nat, k ≤ D.zs.length ∧ i = .int .i64 k ∧ Held w G (D.mapTo (fun i z => z.crash (Dv.kept keep i)) k) wr) (fun i _ _ => D.zs.length - (intOf i).toNat)
    case atStart => exact ⟨0, by omega, rfl, by rw [Dv.mapTo_zero]; exact H0.out⟩
    case round =>
      obtain ⟨k, hk, rfl, h1⟩ := hrel
      have H1 := hide h1
      obtain ⟨A1, c1, es1, k0, k1, hr, hB⟩ := h1
      have hlk : (D.mapTo (fun i z => z.crash (Dv.kept keep i)) k).zs.length = D.zs.length := Dv.mapTo_length _ _ _
      by_cases hlt : k < D.zs.length
      · have hk1 : k < (D.mapTo (fun i z => z.crash (Dv.kept keep i)) k).zs.length := by rw [hlk]; exact hlt
        have Hget : (D.mapTo (fun i z => z.crash (Dv.kept keep i)) k).zs[k] = D.zs[k] := Dv.mapTo_get D _ k hlt
        have Hsucc := hide (Dv.mapTo_succ D (fun i z => z.crash (Dv.kept keep i)) k hlt)
        have hLk := HL.out _ (List.getElem_mem hlt)
        rw [← Hget] at Hsucc hLk
        have hsz : (D.mapTo (fun i z => z.crash (Dv.kept keep i)) k).zs[k].size = (D.mapTo (fun i z => z.crash (Dv.kept keep i)) k).size := hLk.2.2.2
        have HLk := hide (And.intro hLk.1 (And.intro hLk.2.1 hLk.2.2.1))
        have hl1 : D.zs.length < 65536 := Hl.out
        have Hl1 : Hid ((D.mapTo (fun i z => z.crash (Dv.kept keep i)) k).zs.length < 65536) := hide (by rw [hlk]; exact hl1)
        have Hwr : Hid (Below w.heap.size w wr) := hide hB
        clear Hget hlk H1 hLk
        generalize D.mapTo (fun i z => z.crash (Dv.kept keep i)) k = Dk at k0 hr hk1 hsz Hsucc HLk Hl1
        have H1 : Hid (Held w G Dk wr) := hide ⟨A1, c1, es1, k0, k1, hr, hB⟩
        obtain ⟨s0, s1, s2, s3, s4, -⟩ := k0.five
        obtain ⟨g, rfl, hlc, hgl, hk', hez, x0, x1, x2, x3⟩ := hr.at_ hk1
        have hrow := hr.row _ (List.getElem_mem hk')
        rw [hez] at hrow
        have Hcr : Hid (∀ q w', Below wr.heap.size wr w' → Calls Try.prog 88 #[.agg #[.slice es1[k].a Dk.zs[k].L.length es1[k].c, .int .i64 (Dk.zs[k].safe : Int), .int .i64 Dk.zs[k].state, .bool Dk.zs[k].fin], .int .i64 q, .int .i64 Dk.size] w' (GaveZ w' (Dk.zs[k].crash q))) := hide (fun q w' hb => by
          rw [← hsz]
          exact crash_any Dk.zs[k] q _ _ w' (hrow.mods' hb) HLk.out.1 HLk.out.2.1 HLk.out.2.2)
        have Hr := hide hr
        have K0 := hide k0
        have hbl0 := k0.lt
        have hS9 : Hid (∀ w', Below wr.heap.size wr w' → w'.cell? ⟨w.heap.size, 0, none⟩ = some (.slice (some ⟨g, 0, none⟩) Dk.zs.length c1) ∧ w'.cell? ⟨w.heap.size, 1, none⟩ = some (.int .i64 Dk.size) ∧ w'.cell? ⟨w.heap.size, 2, none⟩ = some (.int .i64 Dk.op) ∧ w'.cell? ⟨w.heap.size, 3, none⟩ = some (.int .i64 (Dk.n : Int)) ∧ w'.cell? ⟨w.heap.size, 4, none⟩ = some (.bool Dk.down) ∧ w'.cell? ⟨g, k * 4, none⟩ = some (.slice es1[k].a Dk.zs[k].L.length es1[k].c) ∧ w'.cell? ⟨g, k * 4 + 1, none⟩ = some (.int .i64 (Dk.zs[k].safe : Int)) ∧ w'.cell? ⟨g, k * 4 + 2, none⟩ = some (.int .i64 Dk.zs[k].state) ∧ w'.cell? ⟨g, k * 4 + 3, none⟩ = some (.bool Dk.zs[k].fin)) := hide (fun w' hV => ⟨(hV.cell (p := ⟨w.heap.size, 0, none⟩) hbl0).trans s0, (hV.cell (p := ⟨w.heap.size, 1, none⟩) hbl0).trans s1, (hV.cell (p := ⟨w.heap.size, 2, none⟩) hbl0).trans s2, (hV.cell (p := ⟨w.heap.size, 3, none⟩) hbl0).trans s3, (hV.cell (p := ⟨w.heap.size, 4, none⟩) hbl0).trans s4, (hV.cell (p := ⟨g, k * 4, none⟩) hgl).trans x0, (hV.cell (p := ⟨g, k * 4 + 1, none⟩) hgl).trans x1, (hV.cell (p := ⟨g, k * 4 + 2, none⟩) hgl).trans x2, (hV.cell (p := ⟨g, k * 4 + 3, none⟩) hgl).trans x3⟩)
        clear hrow hr hez k0 k1 hB hsz
        by_cases hkk : k < keep.length
        · obtain ⟨bk, ok, rfl, hbk, hck⟩ := HKc.out (by omega)
          have ck : wr.cell? ⟨bk, ok + k, none⟩ = some (.int .i64 keep[k]) := (Hwr.out.cell (p := ⟨bk, ok + k, none⟩) hbk).trans (hck k hkk)
          have Hkept : Hid (Dv.kept keep k = keep[k]) := hide (by simp [Dv.kept, hkk])
          have dk : decide ((k : Int) < (keep.length : Int)) = true := decide_eq_true (by omega)
          have dk' : decide (k < keep.length) = true := decide_eq_true hkk
          clear hck
          go_upto_region 9 with (fail)
          clear s0 s1 s2 s3 s4 x0 x1 x2 x3
          refine Reg.wp_region_reads (fun w' => w'.cell? ⟨w.heap.size, 0, none⟩ = some (.slice (some ⟨g, 0, none⟩) Dk.zs.length c1) ∧ w'.cell? ⟨w.heap.size, 1, none⟩ = some (.int .i64 Dk.size) ∧ w'.cell? ⟨w.heap.size, 2, none⟩ = some (.int .i64 Dk.op) ∧ w'.cell? ⟨w.heap.size, 3, none⟩ = some (.int .i64 (Dk.n : Int)) ∧ w'.cell? ⟨w.heap.size, 4, none⟩ = some (.bool Dk.down) ∧ w'.cell? ⟨g, k * 4, none⟩ = some (.slice es1[k].a Dk.zs[k].L.length es1[k].c) ∧ w'.cell? ⟨g, k * 4 + 1, none⟩ = some (.int .i64 (Dk.zs[k].safe : Int)) ∧ w'.cell? ⟨g, k * 4 + 2, none⟩ = some (.int .i64 Dk.zs[k].state) ∧ w'.cell? ⟨g, k * 4 + 3, none⟩ = some (.bool Dk.zs[k].fin)) 10 11 (by decide +kernel) (by decide +kernel) (hS9.out _ (Below.refl _ wr).drew) ?_
          simp only [List.take_succ_cons, List.take_zero, List.drop_succ_cons, List.drop_zero]
          iterate 10
            apply Reg.wpReads_step rfl
            · intro w' hS
              obtain ⟨q0, q1, q2, q3, q4, q5, q6, q7, q8⟩ := hS
              go_simp
              first | done | rfl
            intro K hK
            go_simp
            refine hK _ ?_
            clear hK K
          refine Reg.wpReads_nil ?_
          refine Reg.wpTail_step rfl (fun K hK => ?_)
          go_simp
          refine (Hcr.out keep[k] _ (Below.refl _ wr).drew).mono ?_
          rintro e w2 ⟨B, cc, rfl, hownB, hgeB, hbB⟩
          have hb2 : Below wr.heap.size wr w2 := (Below.refl _ wr).drew.trans hbB
          go_simp
          refine hK _ _ (fun _ => hS9.out _ hb2) ?_
          clear hK K
          refine Reg.wpTail_list _ _ _ _ (by omega) ?_
          have Hput := hide (put_any (Hr.out.below hb2) Hl1.out k hk1 ⟨Dk.zs[k].crash keep[k], B, cc⟩ hownB (fun j hj => .inr (by have := hgeB j hj; have h3 := H1.out; obtain ⟨_, _, _, _, k1', _, _⟩ := h3; have := k1'.lt; have h4 : wr.drew.heap.size = wr.heap.size := rfl; omega)))
          have H2 := hide (H1.out.below hb2)
          have k02 : Blk w2 w.heap.size 31 _ := (hb2.block _ K0.out.lt).trans K0.out
          have K02 := hide k02
          clear hb2 hbB hownB hgeB k02
          go_wp2_with fail
          refine Hput.out.mono ?_
          rintro e w4 ⟨A', c', es', rfl, href, hb4⟩
          have k4 : Blk w4 w.heap.size 31 _ := (hb4.block _ K02.out.lt).trans K02.out
          obtain ⟨s0, s1, s2, s3, s4, f0, f1, f2, f3, f4⟩ := k4.five
          have Hnew := hide (H2.out.put href hb4)
          clear href hb4 k4
          go_wp2_with fail
          refine NoPanic.normal ?_
          go_wp2_with fail
          go_roundw
          case rel =>
            refine ⟨k + 1, by omega, by go_num, ?_⟩
            rw [← Hsucc.out, Hkept.out]
            exact Hnew.out
          case measure => simp [intOf]; omega
        · have Hkept : Hid (Dv.kept keep k = 0) := hide (by simp [Dv.kept, show keep.length ≤ k by omega])
          have dk : decide ((k : Int) < (keep.length : Int)) = false := decide_eq_false (by omega)
          have dk' : decide (k < keep.length) = false := decide_eq_false hkk
          clear hkk
          go_upto_region 9 with (fail)
          clear s0 s1 s2 s3 s4 x0 x1 x2 x3
          refine Reg.wp_region_reads (fun w' => w'.cell? ⟨w.heap.size, 0, none⟩ = some (.slice (some ⟨g, 0, none⟩) Dk.zs.length c1) ∧ w'.cell? ⟨w.heap.size, 1, none⟩ = some (.int .i64 Dk.size) ∧ w'.cell? ⟨w.heap.size, 2, none⟩ = some (.int .i64 Dk.op) ∧ w'.cell? ⟨w.heap.size, 3, none⟩ = some (.int .i64 (Dk.n : Int)) ∧ w'.cell? ⟨w.heap.size, 4, none⟩ = some (.bool Dk.down) ∧ w'.cell? ⟨g, k * 4, none⟩ = some (.slice es1[k].a Dk.zs[k].L.length es1[k].c) ∧ w'.cell? ⟨g, k * 4 + 1, none⟩ = some (.int .i64 (Dk.zs[k].safe : Int)) ∧ w'.cell? ⟨g, k * 4 + 2, none⟩ = some (.int .i64 Dk.zs[k].state) ∧ w'.cell? ⟨g, k * 4 + 3, none⟩ = some (.bool Dk.zs[k].fin)) 10 11 (by decide +kernel) (by decide +kernel) (hS9.out _ (Below.refl _ wr).drew) ?_
          simp only [List.take_succ_cons, List.take_zero, List.drop_succ_cons, List.drop_zero]
          iterate 10
            apply Reg.wpReads_step rfl
            · intro w' hS
              obtain ⟨q0, q1, q2, q3, q4, q5, q6, q7, q8⟩ := hS
              go_simp
              first | done | rfl
            intro K hK
            go_simp
            refine hK _ ?_
            clear hK K
          refine Reg.wpReads_nil ?_
          refine Reg.wpTail_step rfl (fun K hK => ?_)
          go_simp
          refine (Hcr.out 0 _ (Below.refl _ wr).drew).mono ?_
          rintro e w2 ⟨B, cc, rfl, hownB, hgeB, hbB⟩
          have hb2 : Below wr.heap.size wr w2 := (Below.refl _ wr).drew.trans hbB
          go_simp
          refine hK _ _ (fun _ => hS9.out _ hb2) ?_
          clear hK K
          refine Reg.wpTail_list _ _ _ _ (by omega) ?_
          have Hput := hide (put_any (Hr.out.below hb2) Hl1.out k hk1 ⟨Dk.zs[k].crash 0, B, cc⟩ hownB (fun j hj => .inr (by have := hgeB j hj; have h3 := H1.out; obtain ⟨_, _, _, _, k1', _, _⟩ := h3; have := k1'.lt; have h4 : wr.drew.heap.size = wr.heap.size := rfl; omega)))
          have H2 := hide (H1.out.below hb2)
          have k02 : Blk w2 w.heap.size 31 _ := (hb2.block _ K0.out.lt).trans K0.out
          have K02 := hide k02
          clear hb2 hbB hownB hgeB k02
          go_wp2_with fail
          refine Hput.out.mono ?_
          rintro e w4 ⟨A', c', es', rfl, href, hb4⟩
          have k4 : Blk w4 w.heap.size 31 _ := (hb4.block _ K02.out.lt).trans K02.out
          obtain ⟨s0, s1, s2, s3, s4, f0, f1, f2, f3, f4⟩ := k4.five
          have Hnew := hide (H2.out.put href hb4)
          clear href hb4 k4
          go_wp2_with fail
          refine NoPanic.normal ?_
          go_wp2_with fail
          go_roundw
          case rel =>
            refine ⟨k + 1, by omega, by go_num, ?_⟩
            rw [← Hsucc.out, Hkept.out]
            exact Hnew.out
          case measure => simp [intOf]; omega
      · obtain rfl : k = D.zs.length := by omega
        obtain ⟨s0, s1, s2, s3, s4, f0, f1, f2, f3, f4⟩ := k0.five
        obtain ⟨r0, r1, r2, r3, r4, g0, g1, g2, g3, g4⟩ := k1.five
        have K1 := hide k1
        have Hr := hide hr
        have HB := hide hB
        have Hbl := hide k1.lt
        clear k0 k1 hr hB
        rw [hlk] at s0
        have s1 : wr.cell? ⟨w.heap.size, 1, none⟩ = some (.int .i64 D.size) := s1
        have s2 : wr.cell? ⟨w.heap.size, 2, none⟩ = some (.int .i64 D.op) := s2
        have s3 : wr.cell? ⟨w.heap.size, 3, none⟩ = some (.int .i64 (D.n : Int)) := s3
        have Hlk := hide hlk
        clear hlk
        go_wp2_with fail
        have hm : Mods (fun j => j = w.heap.size) wr (wr.setCell ⟨w.heap.size, 4, none⟩ (.bool false)) := (Mods.refl (fun j => j = w.heap.size) wr).setCell (p := ⟨w.heap.size, 4, none⟩) (.inl rfl) _
        have K1' := K1.out.far (p := ⟨w.heap.size, 4, none⟩) (by simp) (.bool false)
        have hl2 := Hbl.out
        have Hr' : RefIs (wr.setCell ⟨w.heap.size, 4, none⟩ (.bool false)) { D.mapTo (fun i z => z.crash (Dv.kept keep i)) D.zs.length with down := false } A1 c1 es1 (fun j => (G j ∧ j < w.heap.size) ∨ w.heap.size + 2 ≤ j) := by
          have h2 := Hr.out.mods hm (fun k hk _ e => by subst e; rcases hk with hk | hk <;> omega)
          exact ⟨h2.zs, h2.own, h2.row, h2.inG⟩
        have HB' := HB.out.trans (hm.below (B := w.heap.size) (by omega) (fun k e => by omega))
        refine bodyPost_ret (v := .agg #[.slice A1 D.zs.length c1, .int .i64 D.size, .int .i64 D.op, .int .i64 (D.n : Int), .bool false]) ?_ rfl ?_
        · exact results_cell_row (fn := Try.f53) (p := 4) rfl _ _ (w.heap.size + 1) 31 _ (0, 0) _ rfl (Blk.set5 K1' _ _ _ _ _) Try.underlying31 rfl sizeD
        · rw [hfin.out]
          obtain ⟨t1, t2⟩ := Held.gave (v0 := .slice A1 D.zs.length c1) (v1 := .int .i64 D.size) (v2 := .int .i64 D.op) (v3 := .int .i64 (D.n : Int)) (v4 := .bool false) Hr' HB'
          exact ⟨A1, c1, es1, by dsimp only; rw [Hlk.out]; rfl, t1, t2⟩
  · have hfin := hide (Dv.revive_up keep hd)
    have Hd := hide hd
    rw [Bool.not_eq_true] at hd
    rw [hd]
    clear h hl hd hK hL
    go_enter Try.func53, Try.ntmps53
    go_wp2_with fail
    refine bodyPost_ret (v := .agg #[.slice A D.zs.length c, .int .i64 D.size, .int .i64 D.op, .int .i64 (D.n : Int), .bool false]) (by simp [results, Try.results53, go_sem]) rfl ?_
    have hB : ∀ o1 o2, Below w.heap.size w ((w.alloc o1).alloc o2) := fun _ _ => ((Below.refl _ w).alloc (Nat.le_refl _) _).alloc (by simp) _
    rw [hfin.out]
    refine ⟨A, c, es, ?_, (h'.out.below (hB _ _)).mono (fun _ hk => .inl hk), hB _ _⟩
    rw [(by simpa using Hd.out : D.down = false)]
end
end Go.Proofs.Ytdinbhanekpjoaa.R7
