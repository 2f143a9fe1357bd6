/-
  The walk of ZonePlays: it answers true, and nothing that was there has turned.
-/
import Derived.Test.YtahlphclighccaaFailed
import Derived.Test.YtahlphclighccaaSame
namespace Go.Proofs.Ytahlphclighccaa
open Go.RowKit Go.Shelf It

attribute [local go_sem] Oper.semAt_some

theorem Rel.below {w wr wx : World} {g b : Nat} {z u : Zn Int} (h : Rel w g b z u wr) (hb : Below wr.heap.size wr wx) : Rel w g b z u wx := by
  obtain ⟨A, c, F, G, hB, hg, hFg, hGg, hF, hG, hbel, hgw⟩ := h
  exact ⟨A, c, F, G, hB.below hb, (hb.block g hg.lt).trans hg, hFg, hGg, hF, hG, hbel.trans (hb.mono hbel.size), hgw⟩

theorem res1 {fn : Func} {t : Tmp} (h : fn.results = #[.tmp t]) (tmps : Array Value) (P : Program) (w : World) : (results fn tmps).run P w = .ok (tmps.getD t undef) w := by
  have := results_tmp h tmps P w
  simpa using this

set_option maxRecDepth 100000 in
set_option maxHeartbeats 4000000 in
theorem plays_walk (size : Int) (A1 : Option Addr) (cap1 : Nat) (os : List Stp) (stop : Int) (w : World) (h1 : CameOps w A1 os)
    (hs1 : 1 ≤ size) (hs2 : size ≤ 64) (hn1 : os.length ≤ 80) :
    Calls Try.prog 6 #[.int .i64 size, .slice A1 os.length cap1, .int .i64 stop] w fun e w' => e = .returned (.bool true) ∧ Below w.heap.size w w' := by
  have h1' := hide h1
  clear h1
  refine calls_of_wp_marks Try.func6 rfl ?_
  simp only [Try.ntmps6, List.size_toArray, List.length_cons, List.length_nil, Nat.reduceAdd, Nat.reduceSub, Array.replicate_succ, Array.replicate_zero, List.push_toArray, List.append_toArray, List.nil_append, List.cons_append]
  go_wp2_with fail
  have hwb0 : Below w.heap.size w (w.alloc (.cells #[.int .i64 stop] 3)) := (Below.refl _ w).alloc (Nat.le_refl _) _
  have h5b0 : Blk (w.alloc (.cells #[.int .i64 stop] 3)) w.heap.size 3 #[.int .i64 stop] := Blk.new _ _ _
  obtain ⟨wb, hwb⟩ : ∃ wb, wb = w.alloc (.cells #[.int .i64 stop] 3) := ⟨_, rfl⟩
  rw [← hwb] at hwb0 h5b0 ⊢
  clear hwb
  have h5lt := h5b0.lt
  refine (ZI.anchor_any _).mono ?_
  rintro e w1 ⟨rfl, hb1⟩
  go_wp2_with fail
  refine (ZI.new_any size _ hs1 hs2).mono ?_
  rintro e w2 ⟨rfl, hmade⟩
  have hrel0 := hide (Rel.start hb1 hmade)
  have hok0 := hide (new_ok size hs1 hs2)
  have d1 : decide (size < 1) = false := decide_eq_false (by omega)
  have d2 : decide (64 < size) = false := decide_eq_false (by omega)
  clear hmade hs1 hs2
  go_wp2_with fail

  go_loopw [46] (fun i wr => ∃ k : Nat, k ≤ os.length ∧ i = .int .i64 k ∧ Rel wb w2.heap.size w1.heap.size (played (Zn.new size) os k) (played (Zn.new size) os k) wr) (fun i _ => os.length - (intOf i).toNat)
  case atStart => exact ⟨0, Nat.zero_le _, rfl, by rw [played_zero]; exact hrel0.out⟩
  case round =>
    obtain ⟨k, hk, rfl, hR⟩ := hrel
    have hR' := hide hR
    obtain ⟨A, c, F, G, hB, hg, hFg, hGg, hF, hG, hbel, hgw⟩ := hR
    have hok := played_ok hok0.out os k
    have hlen := hok.lt
    have hbelw : Below w.heap.size w wr := hwb0.trans (hbel.mono hwb0.size)
    by_cases hlt : k < os.length
    · obtain ⟨ab, off, rfl, hab, c0, c1, c2⟩ := h1'.out.at_ hbelw k hlt
      obtain ⟨k0, k1, k2, k3, k4, f0, f1, f2, f3, f4⟩ := hg.five
      have hgl := hg.lt
      obtain ⟨zn, hzn⟩ : ∃ zn, played (Zn.new size) os (k + 1) = zn := ⟨_, rfl⟩
      have hokn := (played_ok hok0.out os (k + 1)).lt
      have hba : Below wr.heap.size wr (wr.alloc (.cells #[.int .i64 os[k].1, .int .i64 os[k].2.1, .int .i64 os[k].2.2] 41)) := (Below.refl wr.heap.size wr).alloc (Nat.le_refl _) _
      have Hstep := step_any (played (Zn.new size) os k) (played (Zn.new size) os k) os[k].1 os[k].2.1 os[k].2.2 w1.heap.size A c _ F G (hB.below hba) hlen hlen hok.safe hok.safe hok.state_hi
      rw [stepB_self, ← played_succ _ _ _ hlt, hzn] at Hstep
      rw [hzn] at hokn
      have HS := hide Hstep
      have Hzn := hide hzn
      have Hokn := hide hokn
      clear Hstep hzn hokn
      go_wp2_with fail
      refine HS.out.mono ?_
      rintro e w3 ⟨A', c', rfl, F', G', hB3, hm3, hF3, hG3⟩
      have hg3 : Blk w3 w2.heap.size _ _ := (hg.alloc _).mods hm3 hFg
      clear k0 k1 k2 k3 k4 f0 f1 f2 f3 f4
      obtain ⟨k0, k1, k2, k3, k4, f0, f1, f2, f3, f4⟩ := hg3.five
      have hnext := Rel.next hbel hba hg3 rfl hF hG hFg hGg hgl hgw hB3 hm3 hF3 hG3
      have Hnext := hide hnext
      clear hB3 hm3 hF3 hG3 hB hg hFg hGg hF hG hnext
      go_upto_region 16 with (fail)
      have hnext := Hnext.out
      obtain ⟨W5, hW5⟩ : ∃ W5, W5 = (((((w3.setCell ⟨w2.heap.size, 0, none⟩ (.slice A' zn.L.length c')).setCell ⟨w2.heap.size, 1, none⟩ (.int .i64 zn.size)).setCell ⟨w2.heap.size, 2, none⟩ (.int .i64 (zn.safe : Int))).setCell ⟨w2.heap.size, 3, none⟩ (.int .i64 zn.state)).setCell ⟨w2.heap.size, 4, none⟩ (.bool zn.fin)) := ⟨_, rfl⟩
      rw [← hW5] at hnext ⊢
      clear hW5 k0 k1 k2 k3 k4 f0 f1 f2 f3 f4 c0 c1 c2 hg3 Hnext
      have hnext' := hide hnext
      obtain ⟨A5, c5, F5, G5, hB5, hg5, -⟩ := hnext
      obtain ⟨k0, k1, k2, k3, k4, f0, f1, f2, f3, f4⟩ := hg5.five
      have HS5 := hide (same_any zn w1.heap.size A5 c5 W5 F5 G5 hB5 Hokn.out)
      clear hB5 hg5
      go_wp2_with fail
      refine HS5.out.mono ?_
      rintro e w6 ⟨rfl, hb6⟩
      have hr6 := hide (hnext'.out.below hb6)
      clear k0 k1 k2 k3 k4 f0 f1 f2 f3 f4
      go_wp2_with fail
      go_roundw
      case rel => exact ⟨k + 1, by omega, by go_num, by rw [Hzn.out]; exact hr6.out⟩
      case measure => simp [intOf]; omega
    · obtain rfl : k = os.length := by omega
      generalize hz : played (Zn.new size) os os.length = z at *
      have Hz := hide hz
      have hbs := hbel.size
      have hbs2 := hbelw.size
      obtain ⟨Az, cz, hzb, hFb, hown, hgz, hltz⟩ := hB.zone
      have hzI := hide (Ints.of_own hown)
      have h5 : Blk wr w.heap.size 3 #[.int .i64 stop] := (hbel.block w.heap.size h5lt).trans h5b0
      have hglt := hg.lt
      have hblt := hzb.lt
      clear hz hFb hown hgz hltz hF hG hB
      go_wp2_with fail
      have hz0 : (wr.alloc (.cells #[.int .i64 0] 3)).cell? ⟨w1.heap.size, 0, none⟩ = some (.slice Az z.L.length cz) := by
        have := hzb.alloc (.cells #[.int .i64 0] 3)
        exact this.cell 0
      refine (all_any w1.heap.size Az z.L.length cz _ hz0).mono ?_
      rintro e w7 ⟨rfl, rfl⟩
      clear hz0
      go_wp2_with fail
      rename_i Q' K' hK
      have hB4 := ((Below.refl wr.heap.size wr).alloc (Nat.le_refl _) (.cells #[.int .i64 0] 3)).alloc (by simp) (.cells #[.slice Az z.L.length cz] 39)
      have k1 : Blk ((wr.alloc (.cells #[.int .i64 0] 3)).alloc (.cells #[.slice Az z.L.length cz] 39)) wr.heap.size 3 #[.int .i64 0] := (Blk.new wr _ _).alloc _
      have k2 : Blk ((wr.alloc (.cells #[.int .i64 0] 3)).alloc (.cells #[.slice Az z.L.length cz] 39)) (wr.heap.size + 1) 39 #[.slice Az z.L.length cz] := by
        have := Blk.new (wr.alloc (.cells #[.int .i64 0] 3)) 39 #[.slice Az z.L.length cz]
        rwa [World.size_alloc] at this
      obtain ⟨W4, hW4⟩ : ∃ W4, W4 = ((wr.alloc (.cells #[.int .i64 0] 3)).alloc (.cells #[.slice Az z.L.length cz] 39)) := ⟨_, rfl⟩
      rw [← hW4] at hB4 k1 k2 ⊢
      clear hW4
      have hlt2 := k2.lt
      refine wp_rangeFunc_skip rfl (fun _ _ => rfl) (encs := encs z.L) (n₀ := wr.heap.size) (all_stops Fence.wide 8 trivial rfl (by omega) _ wr.heap.size Az cz z.L (by omega) W4 hlt2 hB4.size (k2.cell 0) (hzI.out.below hB4)) hB4.size (fun _ => rfl)
        (fun pre W => Blk W wr.heap.size 3 #[.int .i64 (pre.length : Int)] ∧ Below wr.heap.size wr W)
        (fun cc pre W => cc = .exit 2 ∧ (pre.length : Int) = stop ∧ Blk W wr.heap.size 3 #[.int .i64 (pre.length : Int)] ∧ Below wr.heap.size wr W)
        ?_ ?_ ⟨k1, hB4⟩ ?_ ?_ ?_
      · exact (ownFrom_blk' _ _ _ (fun (pre : List (Fin z.L.length)) => #[.int .i64 (pre.length : Int)])).and (ownFrom_below (Nat.le_refl _) hB4.size)
      · exact fun cc => (ownFrom_pure _ (fun _ => cc = .exit 2)).and ((ownFrom_pure _ (fun (pre : List (Fin z.L.length)) => (pre.length : Int) = stop)).and ((ownFrom_blk' _ _ _ (fun (pre : List (Fin z.L.length)) => #[.int .i64 (pre.length : Int)])).and (ownFrom_below (Nat.le_refl _) hB4.size)))
      · rintro l pre x W ⟨i1, iB⟩ hpre
        have cn : W.cell? ⟨wr.heap.size, 0, none⟩ = some (.int .i64 (pre.length : Int)) := i1.cell 0
        have fn := i1.frozen 0
        have c5 : W.cell? ⟨w.heap.size, 0, none⟩ = some (.int .i64 stop) := (iB.cell (p := ⟨w.heap.size, 0, none⟩) (by simp; omega)).trans (h5.cell 0)
        have hne : ¬ wr.heap.size = w.heap.size := by omega
        have hne' : ¬ w.heap.size = wr.heap.size := by omega
        have i2 := i1.set_ 0 (.int .i64 ((pre.length : Int) + 1))
        have iB2 := iB.setCell (p := ⟨wr.heap.size, 0, none⟩) (Nat.le_refl _) (.int .i64 ((pre.length : Int) + 1))
        have hk2 := keepsFrom_setCell (B := W4.heap.size) W (p := ⟨wr.heap.size, 0, none⟩) (by simp; omega) (.int .i64 ((pre.length : Int) + 1))
        have hb2 := (Below.refl wr.heap.size W).setCell (p := ⟨wr.heap.size, 0, none⟩) (Nat.le_refl _) (.int .i64 ((pre.length : Int) + 1))
        have hlp : ((pre ++ [x]).length : Int) = (pre.length : Int) + 1 := by simp
        simp only [List.setIfInBounds_toArray, List.set_cons_zero] at i2
        have I2 := hide i2
        have Hlp := hide hlp
        clear hK hlp i2
        dsimp only [encs]
        go_simp
        by_cases hst : (pre.length : Int) + 1 = stop
        · have hste : ((pre.length : Int) + 1 == stop) = true := beq_iff_eq.2 hst
          have Hst := hide hst
          clear hst
          gi_wp2
          exact ⟨hk2, rfl, by rw [Hlp.out]; exact Hst.out, by rw [Hlp.out]; exact I2.out, iB2⟩
        · have hste : ((pre.length : Int) + 1 == stop) = false := beq_eq_false_iff_ne.2 hst
          clear hst
          gi_wp2
          exact ⟨hk2, hb2, by rw [Hlp.out]; exact I2.out, iB2⟩
      · rintro D xs W hD rfl ⟨i1, iB⟩ hdef
        rw [upto_length (Nat.le_refl _)] at i1
        refine hK _ _ ?_
        have cn : W.cell? ⟨wr.heap.size, 0, none⟩ = some (.int .i64 (z.L.length : Int)) := i1.cell 0
        have c5 : W.cell? ⟨w.heap.size, 0, none⟩ = some (.int .i64 stop) := (iB.cell (p := ⟨w.heap.size, 0, none⟩) (by simp; omega)).trans (h5.cell 0)
        have cg : W.cell? ⟨w2.heap.size, 0, none⟩ = some (.slice A z.L.length c) := (iB.cell (p := ⟨w2.heap.size, 0, none⟩) hglt).trans (hg.cell 0)
        clear hK
        go_wp2_with fail
        refine leaves_marks [D] _ ?_ (by simp) (fun w' hw' => ?_)
        · intro D' hD'
          obtain rfl := List.mem_singleton.1 hD'
          exact hdef
        · refine ⟨_, res1 rfl _ _ _, rfl, ?_⟩
          exact (hbelw.trans (iB.mono hbs2)).trans (below_marks hw' (fun D' hD' => by
            obtain rfl := List.mem_singleton.1 hD'
            omega))
      · rintro D cc pre W hD ⟨k, hkl, rfl⟩ ⟨rfl, hst, i1, iB⟩ hdef
        rw [upto_length hkl] at i1 hst
        subst hst
        have cn : W.cell? ⟨wr.heap.size, 0, none⟩ = some (.int .i64 (k : Int)) := i1.cell 0
        have c5 : W.cell? ⟨w.heap.size, 0, none⟩ = some (.int .i64 (k : Int)) := (iB.cell (p := ⟨w.heap.size, 0, none⟩) (by simp; omega)).trans (h5.cell 0)
        have cg : W.cell? ⟨w2.heap.size, 0, none⟩ = some (.slice A z.L.length c) := (iB.cell (p := ⟨w2.heap.size, 0, none⟩) hglt).trans (hg.cell 0)
        refine wp_exit ?_
        refine hK _ _ ?_
        clear hK
        have hend : ∀ tmps, tmps.getD 6 undef = Value.bool true → LeavesInM Fence.wide 9 Try.prog Try.f6 tmps (fun e w' => e = .returned (.bool true) ∧ Below w.heap.size w w') ([D].map It.mark) .returning W := by
          intro tmps ht
          refine leaves_marks [D] _ ?_ (by simp) (fun w' hw' => ?_)
          · intro D' hD'
            obtain rfl := List.mem_singleton.1 hD'
            exact hdef
          · refine ⟨_, res1 rfl _ _ _, by rw [ht], ?_⟩
            exact (hbelw.trans (iB.mono hbs2)).trans (below_marks hw' (fun D' hD' => by
              obtain rfl := List.mem_singleton.1 hD'
              omega))
        by_cases he : k = z.L.length
        · subst he
          go_wp2_with fail
          exact hend _ rfl
        · have hne : ((k : Int) == (z.L.length : Int)) = false := beq_eq_false_iff_ne.2 (by omega)
          have hlt2' : decide ((k : Int) < (z.L.length : Int)) = true := decide_eq_true (by omega)
          have hlt2'' : decide (k < z.L.length) = true := decide_eq_true (by omega)
          clear he
          go_wp2_with fail
          exact hend _ rfl
end Go.Proofs.Ytahlphclighccaa
