/-
  same (revetmentlaw07): it answers true where the device and the document's are one plain device.
-/
import Derived.Test.YtdinbhanekpjoaaItS
import Derived.Test.YtdinbhanekpjoaaInRound
import Derived.Deep.QuietTactic
import Derived.BigQuiet
namespace Go.Proofs.Ytdinbhanekpjoaa
open Go.RowKit Go.Shelf

attribute [local go_sem] Oper.semAt_some

/-- The activation between two rounds. -/
def sameFrame (d b0 b1 : Nat) (A' : Option Addr) (c' n k : Nat) (Ds : List Nat) (v : Nat → Value) : Act := { tmps := #[.pointer (some ⟨d, 0, none⟩), v 1, v 2, .pointer (some ⟨b0, 0, none⟩), .pointer (some ⟨b1, 0, none⟩), v 5, v 6, v 7, v 8, v 9, v 10, v 11, v 12, v 13, v 14, v 15, v 16, v 17, v 18, v 19, v 20, v 21, v 22, v 23, v 24, v 25, v 26, v 27, v 28, v 29, v 30, v 31, v 32, v 33, v 34, v 35, v 36, v 37, v 38, v 39, v 40, v 41, v 42, v 43, v 44, v 45, v 46, v 47, v 48, v 49, v 50, .slice A' n c', .int .i64 (n : Int), .int .i64 (k : Int), v 54, v 55, v 56, v 57, v 58, v 59, v 60, v 61, v 62, v 63, v 64, v 65, v 66, v 67, v 68, v 69, v 70, v 71, v 72, v 73, v 74, v 75, v 76, v 77, v 78, v 79, v 80, v 81, v 82, v 83, v 84, v 85, v 86, v 87, v 88, v 89, v 90, v 91, v 92, v 93, v 94, v 95, v 96, v 97, v 98, v 99, v 100, v 101, v 102, v 103, v 104, v 105, v 106, v 107, v 108, v 109, v 110, v 111], defers := Ds.map ItS.mark }

/-- The activation of the inner loop's body: an index and a sector's block are at hand. -/
def rowFrame (b1 gz gn i g9 : Nat) (v : Nat → Value) : Act := { tmps := #[v 0, v 1, v 2, v 3, .pointer (some ⟨b1, 0, none⟩), v 5, .pointer (some ⟨gz, 0, none⟩), .pointer (some ⟨gn, 0, none⟩), .int .i64 (i : Int), .pointer (some ⟨g9, 0, none⟩), v 10, v 11, v 12, v 13, v 14, v 15, v 16, v 17, v 18, v 19, v 20, v 21, v 22, v 23, v 24, v 25, v 26, v 27, v 28, v 29, v 30, v 31, v 32, v 33, v 34, v 35, v 36, v 37, v 38, v 39, v 40, v 41, v 42, v 43, v 44, v 45, v 46, v 47, v 48, v 49, v 50, v 51, v 52, v 53, v 54, v 55, v 56, v 57, v 58, v 59, v 60, v 61, v 62, v 63, v 64, v 65, v 66, v 67, v 68, v 69, v 70, v 71, v 72, v 73, v 74, v 75, v 76, v 77, v 78, v 79, v 80, v 81, v 82, v 83, v 84, v 85, v 86, v 87, v 88, v 89, v 90, v 91, v 92, v 93, v 94, v 95, v 96, v 97, v 98, v 99, v 100, v 101, v 102, v 103, v 104, v 105, v 106, v 107, v 108, v 109, v 110, v 111], defers := [] }
/-- What a round keeps: all that was there, and the marks. -/
def SameInv (W : World) (Ds : List Nat) (wr : World) : Prop := Below W.heap.size W wr ∧ (∀ D ∈ Ds, wr.heap[D]? = some (.deferred (some [])) ∧ W.heap.size ≤ D) ∧ Ds.Nodup
set_option maxHeartbeats 400000 in
/-- Look's other closure goes over nothing. -/
theorem nothing_stops (F : Fence) (n : Nat) (h8 : F.fn 82) (hro : F.round = none) (Kp : World → World → Prop) (w : World) :
    SeqStopsK F n Try.prog 82 #[] (fun (_ : Fin 0) => #[undef, undef]) Kp (fun ys => ys = []) (fun _ => False) 0 w := fun l J Jx W hW hJ _ hY h0 => by
  refine callsIn_of_wp Try.func82 rfl h8 ?_ hro
  simp only [Try.ntmps82, List.size_toArray, List.length_cons, List.length_nil, Nat.reduceAdd, Nat.reduceSub, Array.replicate_succ, Array.replicate_zero, List.push_toArray, List.append_toArray, List.nil_append, List.cons_append]
  gi_wp2
  exact ⟨rfl, _, results_none rfl _ _ _, ⟨_, rfl⟩, h0⟩
section
variable {w : World} {d c c' : Nat} {D : Dv} {F G : Nat → Prop} {A A' : Option Addr} {bs : List Nat} {Fs : Nat → Nat → Prop} {es : List RZ}
set_option maxRecDepth 100000 in
set_option maxHeartbeats 8000000 in
theorem same7_any (h : Two w d D F A c bs Fs A' c' es G) (hl : D.zs.length ≤ 64) (hL : ∀ x ∈ D.zs, x.L.length < 65536) :
    Calls Try.prog 30 #[.pointer (some ⟨d, 0, none⟩), .agg #[.slice A' D.zs.length c', .int .i64 D.size, .int .i64 D.op, .int .i64 (D.n : Int), .bool D.down]] w fun e w' => e = .returned (.bool true) ∧ Below w.heap.size w w' := by
  have h' := hide h
  have Hl := hide hl
  have HL := hide hL
  clear h hl hL
  refine ItS.calls_of_wp_marks Try.func30 rfl ?_
  simp only [Try.ntmps30, List.size_toArray, List.length_cons, List.length_nil, Nat.reduceAdd, Nat.reduceSub, Array.replicate_succ, Array.replicate_zero, List.push_toArray, List.append_toArray, List.nil_append, List.cons_append]
  go_upto_region 1 with (fail)
  have hB : Below w.heap.size w ((w.alloc (.cells #[.slice A' D.zs.length c', .int .i64 D.size, .int .i64 D.op, .int .i64 (D.n : Int), .bool D.down] 31)).alloc (.cells #[.bool false] 4)) := ((Below.refl _ w).alloc (Nat.le_refl _) _).alloc (by simp) _
  have k0 := (Blk.new w 31 #[.slice A' D.zs.length c', .int .i64 D.size, .int .i64 D.op, .int .i64 (D.n : Int), .bool D.down]).alloc (.cells #[.bool false] 4)
  have k1 := Blk.new (w.alloc (.cells #[.slice A' D.zs.length c', .int .i64 D.size, .int .i64 D.op, .int .i64 (D.n : Int), .bool D.down] 31)) 4 #[.bool false]
  rw [World.size_alloc] at k1
  generalize (w.alloc (.cells #[.slice A' D.zs.length c', .int .i64 D.size, .int .i64 D.op, .int .i64 (D.n : Int), .bool D.down] 31)).alloc (.cells #[.bool false] 4) = W2 at hB k0 k1 ⊢
  have h2 := h'.out.below hB
  have Hz1 := hide (fun q => DM.zones_any (h2.dev.drewN q))
  have Hz2 := hide (fun q => DM.size_any (h2.dev.drewN q))
  have Hz3 := hide (fun q => DM.count_any (h2.dev.drewN q))
  have Hz4 := hide (fun q => DM.down_any (h2.dev.drewN q))
  have Hz5 := hide (fun q => DM.state_any (h2.dev.drewN q) (-1))
  have Hz6 := hide (fun q => DM.len_any (h2.dev.drewN q) (D.zs.length : Int))
  rw [Dv.stateOf_out (D := D) (z := -1) (.inl (by omega))] at Hz5
  rw [Dv.lenOf_out (D := D) (z := (D.zs.length : Int)) (.inr (Int.le_refl _))] at Hz6
  obtain ⟨s0, s1, s2, s3, s4, -⟩ := k0.five
  have H2 := hide h2
  have HB := hide hB
  have K0 := hide k0
  have K1 := hide k1
  clear h2 hB k0 k1
  go_quiet (first | (go_at_call 66; exact DM.quiet Hz1.out _) | (go_at_call 67; exact DM.quiet Hz2.out _) | (go_at_call 26; exact DM.quiet Hz3.out _) | (go_at_call 20; exact DM.quiet Hz4.out _) | (go_at_call 17; exact DM.quiet Hz5.out _) | (go_at_call 21; exact DM.quiet Hz6.out _))
  have H3 := hide (H2.out.below ((Mods.refl (fun _ => False) W2).drewN nq |>.below (Nat.le_refl _) (fun _ h => h.elim)))
  have HB3 := hide (HB.out.trans (((Mods.refl (fun _ => False) W2).drewN nq |>.below (Nat.le_refl _) (fun _ h => h.elim)).mono HB.out.size))
  have K03 : Hid (Blk (W2.drewN nq) w.heap.size 31 #[.slice A' D.zs.length c', .int .i64 D.size, .int .i64 D.op, .int .i64 (D.n : Int), .bool D.down]) := hide K0.out
  have K13 : Hid (Blk (W2.drewN nq) (w.heap.size + 1) 4 #[.bool false]) := hide K1.out
  clear s0 s1 s2 s3 s4 Hz1 Hz2 Hz3 Hz4 Hz5 Hz6 K0 K1 H2 HB
  generalize W2.drewN nq = W3 at H3 HB3 K03 K13 ⊢
  obtain ⟨s0, s1, s2, s3, s4, -⟩ := K03.out.five
  go_wp2_with fail
  rename_i hK
  refine wp_loop (fun a wr => ∃ (k : Nat) (Ds : List Nat), a = sameFrame d w.heap.size (w.heap.size + 1) A' c' D.zs.length k Ds (fun i => a.tmps.getD i undef) ∧ k ≤ D.zs.length ∧ SameInv W3 Ds wr)
    (fun a _ => D.zs.length - (intOf (a.tmps.getD 53 undef)).toNat) ⟨0, [], rfl, Nat.zero_le _, Below.refl _ _, fun D hD => absurd hD (by simp), List.nodup_nil⟩ ?_
  rintro a wr ⟨k, Ds, ha, hk, hbr, hDs, hnd⟩
  generalize (fun i => a.tmps.getD i undef) = v at ha
  subst ha
  unfold sameFrame
  have Hbr := hide hbr
  have HDs := hide (And.intro hDs hnd)
  have hl64 := Hl.out
  clear hDs hnd
  by_cases hlt : k < D.zs.length
  · obtain ⟨g, rfl, hlc, hgl, hk', hez, x0, x1, x2, x3⟩ := (H3.out.ref.below hbr).at_ hlt
    have Hez := hide hez
    have hLk := HL.out _ (List.getElem_mem hlt)
    clear hez hbr hK
    go_upto_region 6 with (fail)
    have kz := Blk.new wr 93 #[.slice es[k].a D.zs[k].L.length es[k].c, .int .i64 (D.zs[k].safe : Int), .int .i64 D.zs[k].state, .bool D.zs[k].fin]
    have hbz : Below wr.heap.size wr (wr.alloc (.cells #[.slice es[k].a D.zs[k].L.length es[k].c, .int .i64 (D.zs[k].safe : Int), .int .i64 D.zs[k].state, .bool D.zs[k].fin] 93)) := (Below.refl _ wr).alloc (Nat.le_refl _) _
    generalize wr.alloc (.cells #[.slice es[k].a D.zs[k].L.length es[k].c, .int .i64 (D.zs[k].safe : Int), .int .i64 D.zs[k].state, .bool D.zs[k].fin] 93) = wz at kz hbz ⊢
    have hdz := ((H3.out.dev.below Hbr.out).below hbz)
    have Hq1 := hide (fun q => DM.state_any (hdz.drewN q) (k : Int))
    have Hq2 := hide (fun q => DM.len_any (hdz.drewN q) (k : Int))
    rw [Dv.stateOf_in hlt] at Hq1
    rw [Dv.lenOf_in hlt] at Hq2
    obtain ⟨z0, z1, z2, z3, -⟩ := kz.four
    have Hbz := hide hbz
    have Kz := hide kz
    clear hbz kz hdz x0 x1 x2 x3
    go_quiet (first | (go_at_call 17; exact DM.quiet Hq1.out _) | (go_at_call 21; exact DM.quiet Hq2.out _))
    have Kz4 : Hid (Blk (wz.drewN nq) wr.heap.size 93 #[.slice es[k].a D.zs[k].L.length es[k].c, .int .i64 (D.zs[k].safe : Int), .int .i64 D.zs[k].state, .bool D.zs[k].fin]) := hide Kz.out
    have Hb4 := hide (Hbz.out.trans (((Mods.refl (fun _ => False) wz).drewN nq |>.below (Nat.le_refl _) (fun _ h => h.elim)).mono Hbz.out.size))
    clear z0 z1 z2 z3 Hq1 Hq2 Hbz Kz
    generalize wz.drewN nq = w4 at Kz4 Hb4 ⊢
    go_upto_region 9 with (fail)
    have kn := Blk.new w4 3 #[.int .i64 0]
    have hb5 : Below w4.heap.size w4 (w4.alloc (.cells #[.int .i64 0] 3)) := (Below.refl _ w4).alloc (Nat.le_refl _) _
    generalize w4.alloc (.cells #[.int .i64 0] 3) = w5 at kn hb5 ⊢
    obtain ⟨gn, hgn⟩ : ∃ b, b = w4.heap.size := ⟨_, rfl⟩
    rw [← hgn] at kn ⊢
    have kz5 := (hb5.block _ Kz4.out.lt).trans Kz4.out
    have Kz5 : Hid (Blk w5 wr.heap.size 93 _) := hide kz5
    have Kn := hide kn
    have Hgz : Hid (wr.heap.size < gn) := hide (by rw [hgn]; exact Kz4.out.lt)
    have Hb5 := hide (Hb4.out.trans (hb5.mono Hb4.out.size))
    have hWr : W3.heap.size ≤ wr.heap.size := Hbr.out.size
    have Hlook := hide (ItS.look_in (H3.out.dev.below (Hbr.out.trans (Hb5.out.mono Hbr.out.size))) k hlt wr.heap.size (fun b hb => by have := H3.out.dev.lt b hb; omega))
    have HWr := hide hWr
    clear kn hb5 hgn kz5 Kz4 Hb4 hWr
    go_wp2_with fail
    refine Hlook.out.mono ?_
    rintro e w6 ⟨zA, zc, rfl, hw6, hsecs⟩
    have k6 := Blk.new w5 47 #[.slice zA D.zs[k].L.length zc]
    have hb6 : Below w5.heap.size w5 (w5.alloc (.cells #[.slice zA D.zs[k].L.length zc] 47)) := (Below.refl _ w5).alloc (Nat.le_refl _) _
    rw [hw6] at k6 hb6
    have hse6 := hsecs.below (hb6.mono Hb5.out.size)
    have kz6 : Blk w6 wr.heap.size 93 _ := (hb6.block _ Kz5.out.lt).trans Kz5.out
    have kn6 : Blk w6 gn 3 _ := (hb6.block _ Kn.out.lt).trans Kn.out
    have hbw6 := Hb5.out.trans (hb6.mono Hb5.out.size)
    have hrow6 : wr.ownsRow 0 33 64 (.slice es[k].a D.zs[k].L.length es[k].c) D.zs[k].L.length (D.zs[k].L.flatMap Sec.cs) := by
      have := (H3.out.ref.row _ (List.getElem_mem hk')).mods' Hbr.out
      rw [Hez.out] at this
      exact this
    have hrin : ∀ b, (Value.slice es[k].a D.zs[k].L.length es[k].c).ownBlock = some b → b < wr.heap.size := fun b hb => by
      rw [← Hez.out] at hb
      have := H3.out.old b (H3.out.ref.inG.2 _ (List.getElem_mem hk') b hb)
      have := HWr.out
      omega
    have Hrf := hide (ItS.Secs.of_own' hrow6 hrin)
    have Hse := hide hse6
    have Kz6 := hide kz6
    have Kn6 := hide kn6
    have K6 := hide k6
    have Hb6 := hide hbw6
    have HgnW := hide kn6.lt
    clear hsecs hw6 k6 hb6 hse6 kz6 kn6 hbw6 hrow6 hrin Hlook Kz5 Kn Hb5
    go_wp2_with fail
    rename_i hK2
    refine (wpIn_wide (n := 9)).1 (wpIn_rangeFunc_ownH rfl (by omega) rfl trivial (fun _ _ => rfl) (encs := ItS.encs D.zs[k].L) (Kp := Below wr.heap.size) (ItS.all_stops Fence.wide 8 trivial rfl (by omega) _ wr.heap.size zA zc D.zs[k].L (by omega) w6 K6.out.lt Hb6.out.size (K6.out.cell 0) Hse.out) belowK_t (belowK_b Hb6.out.size) (Below.refl _ _) (fun _ => rfl)
      (fun pre W => Blk W gn 3 #[.int .i64 (pre.length : Int)] ∧ Blk W wr.heap.size 93 #[.slice es[k].a D.zs[k].L.length es[k].c, .int .i64 (D.zs[k].safe : Int), .int .i64 D.zs[k].state, .bool D.zs[k].fin] ∧ Below wr.heap.size wr W ∧ w6.heap.size ≤ W.heap.size)
      (fun _ pre _ => ∃ (p : List (Fin D.zs[k].L.length)) (x : Fin D.zs[k].L.length), pre = p ++ [x] ∧ x.1 ≠ p.length) ?_ (fun _ => ItS.ownFrom_pure _ _) ⟨Kn6.out, Kz6.out, Hb6.out, Nat.le_refl _⟩
      (fun x a' W => ∃ g9, a' = rowFrame (w.heap.size + 1) wr.heap.size gn x.1 g9 (fun i => a'.tmps.getD i undef) ∧ Blk W g9 34 D.zs[k].L[x.1].cs.toArray) ?_ ?_ ?_ ?_ ?_)
    · exact (ItS.ownFrom_blk' _ _ _ (fun (pre : List (Fin D.zs[k].L.length)) => #[.int .i64 (pre.length : Int)])).and ((ItS.ownFrom_blk _ _ _ _).and ((ownFrom_below (Nat.le_refl _) Hb6.out.size).and (fun _ W W' row h hg _ => Nat.le_trans h hg.size)))
    · rintro x a' _ W W' row ⟨g9, e, hb⟩ hg hr
      exact ⟨g9, e, ItS.ownFrom_blk (β := Unit) _ _ _ _ () W W' row hb hg hr⟩
    · rintro l pre x W K ⟨i1, i2, iB, iS⟩ hKa
      have HI := hide (And.intro i1 (And.intro i2 iB))
      have HiS := hide iS
      have HKa := hide hKa
      have HZ := hide (Blk.new W 34 Sec.zero.cs.toArray)
      clear i1 i2 iB iS hKa hK2
      dsimp only [ItS.encs]
      gi_wp2_with ((with_reducible refine ItS.wpListIn_store_row ?g2 34 (.tmp 9) (.tmp 77) ?o2 W.heap.size D.zs[k].L[x.1].cs.toArray ?x2 ?y2 34 Sec.zero.cs.toArray ?k2 ?s2 ?l2 ?a2 ?_); (case g2 => exact rfl); (case o2 => exact rfl); (case x2 => exact rfl); (case y2 => exact rfl); (case k2 => exact HZ.out); (case s2 => exact ZD.sizeRow _); (case l2 => simp [Sec.len]); (case a2 => exact sec_all _))
      have hbY : Below W.heap.size W ((W.alloc (.cells Sec.zero.cs.toArray 34)).setRow W.heap.size D.zs[k].L[x.1].cs.toArray) := below_setRow ((Below.refl _ W).alloc (Nat.le_refl _) _) (Nat.le_refl _) _
      have hWs : wr.heap.size ≤ W.heap.size := HI.out.2.2.size
      refine HKa.out _ _ ⟨hbY.size, fun j o _ hj _ => (hbY.block j (Array.getElem?_eq_some_iff.1 hj).1).trans hj⟩ (hbY.mono hWs) ⟨(hbY.block _ HI.out.1.lt).trans HI.out.1, (hbY.block _ HI.out.2.1.lt).trans HI.out.2.1, HI.out.2.2.trans (hbY.mono hWs), Nat.le_trans HiS.out hbY.size⟩ ⟨W.heap.size, rfl, HZ.out.setRow _⟩
    · rintro l pre ⟨i, hi⟩ a' W hl hrec ⟨i1, i2, iB, iS⟩ ⟨g9, ha, hk9⟩ hpre
      dsimp only at hi hk9 ha ⊢
      generalize (fun j => a'.tmps.getD j undef) = v at ha
      subst ha
      unfold rowFrame
      obtain ⟨bA, hAe, hbA, hrg⟩ := Hrf.out.below iB i hi
      rw [hAe] at i2
      have c1 : W.cell? ⟨gn, 0, none⟩ = some (.int .i64 (pre.length : Int)) := i1.cell 0
      obtain ⟨q0, -⟩ := i2.four
      have r9 : W.rangeAt g9 0 D.zs[k].L[i].cs := ZD.range_blk _ hk9
      have hge : decide (D.zs[k].L.length ≤ i) = false := by simp [hi]
      have f1 := i1.frozen 0
      have qA := eqA D.zs[k].L[i]
      by_cases hx : i = pre.length
      · subst hx
        clear hK2
        gi_upto_region 12 with (fail)
        refine InRound.wpIn_region_reads (fun w' => w'.cell? ⟨gn, 0, none⟩ = some (.int .i64 (pre.length : Int)) ∧ w'.cell? ⟨wr.heap.size, 0, none⟩ = some (.slice (some ⟨bA, 0, none⟩) D.zs[k].L.length es[k].c) ∧ w'.rangeAt g9 0 D.zs[k].L[pre.length].cs ∧ w'.rangeAt bA (pre.length * 64) D.zs[k].L[pre.length].cs) 18 18 (by decide +kernel) (by decide +kernel) (by decide +kernel) ⟨c1, q0, r9, hrg⟩ ?_
        simp only [List.take_succ_cons, List.take_zero, List.drop_succ_cons, List.drop_zero]
        iterate 18
          first
          | (refine InRound.wpReads_loadG (by first | rfl | decide) 34 (.tmp 9) rfl g9 0 rfl D.zs[k].L[pre.length].cs _ (fun w' h => h.2.2.1) Try.underlying34 rfl (ZD.sizeSec _) (fun K hK => ?_)
             go_simp
             refine hK _ ?_
             clear hK K)
          | (refine InRound.wpReads_loadG (by first | rfl | decide) 33 (.tmp 93) rfl bA (pre.length * 64) rfl D.zs[k].L[pre.length].cs _ (fun w' h => h.2.2.2) Try.underlying33 rfl (R7.sizeAx _) (fun K hK => ?_)
             go_simp
             refine hK _ ?_
             clear hK K)
          | (apply Reg.wpReads_stepG (by first | rfl | decide)
             · intro w' hS
               obtain ⟨x0, x1, x2, x3⟩ := hS
               go_simp
               first | done | rfl
             intro K hK
             go_simp
             refine hK _ ?_
             clear hK K)
        refine Reg.wpReads_nil ?_
        refine Reg.wpTail_list _ _ _ _ (by omega) ?_
        have k1d : Blk W.drew gn 3 #[.int .i64 (pre.length : Int)] := i1
        have k2d : Blk W.drew wr.heap.size 93 #[.slice (some ⟨bA, 0, none⟩) D.zs[k].L.length es[k].c, .int .i64 (D.zs[k].safe : Int), .int .i64 D.zs[k].state, .bool D.zs[k].fin] := i2
        have e1 : W.drew.cell? ⟨gn, 0, none⟩ = some (.int .i64 (pre.length : Int)) := k1d.cell 0
        have e2 : W.drew.frozen? ⟨gn, 0, none⟩ = false := k1d.frozen 0
        have hbd : Below W.heap.size W W.drew := (Below.refl _ W).drew
        go_wp2_with fail
        try refine InRound.Only.normal ?_
        gi_wp2
        have hkf := ItS.keepsFrom_setCell (B := w6.heap.size) W.drew (p := ⟨gn, 0, none⟩) HgnW.out (.int .i64 ((pre.length : Int) + 1))
        have hgz := Hgz.out
        have hbs : Below wr.heap.size W (W.drew.setCell ⟨gn, 0, none⟩ (.int .i64 ((pre.length : Int) + 1))) := ((Below.refl wr.heap.size W).drew).setCell (p := ⟨gn, 0, none⟩) (Nat.le_of_lt hgz) _
        refine ⟨⟨hkf.size, hkf.same⟩, hbs, ?_, ?_, iB.trans hbs, Nat.le_trans iS hbs.size⟩
        · have hh : Blk (W.drew.setCell ⟨gn, 0, none⟩ (.int .i64 ((pre.length : Int) + 1))) gn 3 #[.int .i64 ((pre.length : Int) + 1)] := by
            have := k1d.set_ 0 (.int .i64 ((pre.length : Int) + 1))
            rwa [show (#[Value.int .i64 (pre.length : Int)].setIfInBounds 0 (.int .i64 ((pre.length : Int) + 1))) = #[.int .i64 ((pre.length : Int) + 1)] from rfl] at this
          have e : ∀ y : Fin D.zs[k].L.length, (((pre ++ [y]).length : Nat) : Int) = (pre.length : Int) + 1 := fun y => by simp
          rw [e]
          exact hh
        · rw [hAe]; exact k2d.far (p := ⟨gn, 0, none⟩) (by simp; omega) _
      · have hxe : ((i : Int) != (pre.length : Int)) = true := bne_iff_ne.2 (by omega)
        have Hx := hide hx
        clear hK2 hx
        gi_upto_region 12 with (fail)
        refine InRound.wpIn_region_reads (fun w' => w'.cell? ⟨gn, 0, none⟩ = some (.int .i64 (pre.length : Int)) ∧ w'.cell? ⟨wr.heap.size, 0, none⟩ = some (.slice (some ⟨bA, 0, none⟩) D.zs[k].L.length es[k].c) ∧ w'.rangeAt g9 0 D.zs[k].L[i].cs ∧ w'.rangeAt bA (i * 64) D.zs[k].L[i].cs) 18 18 (by decide +kernel) (by decide +kernel) (by decide +kernel) ⟨c1, q0, r9, hrg⟩ ?_
        simp only [List.take_succ_cons, List.take_zero, List.drop_succ_cons, List.drop_zero]
        iterate 18
          first
          | (apply InRound.wpReads_skip (by first | rfl | decide)
             intro K hK
             go_simp
             refine hK _ ?_
             clear hK K)
          | (apply Reg.wpReads_stepG (by first | rfl | decide)
             · intro w' hS
               obtain ⟨x0, x1, x2, x3⟩ := hS
               go_simp
               first | done | rfl
             intro K hK
             go_simp
             refine hK _ ?_
             clear hK K)
        refine Reg.wpReads_nil ?_
        refine Reg.wpTail_list _ _ _ _ (by omega) ?_
        have k1d : Blk W.drew (w.heap.size + 1) 4 #[.bool false] := (iB.block _ (by have := K13.out.lt; have := HWr.out; omega)).trans ((Hbr.out.block _ K13.out.lt).trans K13.out)
        have e1 := k1d.cell 0
        have e2 := k1d.frozen 0
        go_wp2_with fail
        try refine InRound.Only.normal ?_
        gi_wp2
        have hkf := ItS.keepsFrom_setCell (B := w6.heap.size) W.drew (p := ⟨w.heap.size + 1, 0, none⟩) (by have := K13.out.lt; have := HWr.out; have := Hb6.out.size; dsimp only; omega) (.bool false)
        exact ⟨⟨hkf.size, hkf.same⟩, pre, ⟨i, hi⟩, rfl, Hx.out⟩
    · rintro D' xs W hD rfl ⟨i1, i2, iB, iS⟩ hdef
      refine hK2 _ _ ?_
      clear hK2
      rw [ItS.upto_length (Nat.le_refl _)] at i1
      have c1 : W.cell? ⟨gn, 0, none⟩ = some (.int .i64 (D.zs[k].L.length : Int)) := i1.cell 0
      obtain ⟨q0, -⟩ := i2.four
      go_wp2_with fail
      have h63 : wr.heap.size ≤ w6.heap.size := Hb6.out.size
      have hin : ∀ D2 ∈ Ds, D2 < wr.heap.size := fun D2 hD2 => (Array.getElem?_eq_some_iff.1 (HDs.out.1 D2 hD2).1).1
      refine ⟨⟨k + 1, D' :: Ds, rfl, by omega, Hbr.out.trans (iB.mono HWr.out), ?_, List.nodup_cons.2 ⟨fun hm => by have := hin D' hm; omega, HDs.out.2⟩⟩, by simp [intOf]; omega⟩
      intro D2 hD2
      rcases List.mem_cons.1 hD2 with rfl | hm
      · exact ⟨hdef, by have := HWr.out; omega⟩
      · exact ⟨(iB.block D2 (hin D2 hm)).trans (HDs.out.1 D2 hm).1, (HDs.out.1 D2 hm).2⟩
    · rintro D' cc pre W hD ⟨q, hq, rfl⟩ ⟨p, x, hp, hx⟩ hdef
      exact absurd (ItS.upto_last hq hp) hx
  · obtain rfl : k = D.zs.length := by omega
    have hbB : Below w.heap.size w wr := HB3.out.trans (Hbr.out.mono HB3.out.size)
    have hdl := H3.out.dev.below Hbr.out
    have k1w : Blk wr (w.heap.size + 1) 4 #[.bool false] := (Hbr.out.block _ K13.out.lt).trans K13.out
    have k0w : Blk wr w.heap.size 31 #[.slice A' D.zs.length c', .int .i64 D.size, .int .i64 D.op, .int .i64 (D.n : Int), .bool D.down] := (Hbr.out.block _ K03.out.lt).trans K03.out
    have Hlook := hide (ItS.look_out hdl (D.zs.length : Int) (.inr (Int.le_refl _)))
    obtain ⟨t0, t1, t2, t3, t4, -⟩ := k0w.five
    have HbB := hide hbB
    have K1w := hide k1w
    clear hbB hdl k1w k0w s0 s1 s2 s3 s4 hbr
    go_wp2_with fail
    refine Hlook.out.mono ?_
    rintro e w' ⟨rfl, rfl⟩
    go_wp2_with fail
    refine ItS.wp_rangeFunc_own rfl (fun _ _ => rfl) (n₀ := wr.heap.size) (nothing_stops Fence.wide 8 trivial rfl _ wr) (Nat.le_refl _) (fun _ => rfl)
      (fun _ W => Below wr.heap.size wr W) (fun _ _ _ => True) (ownFrom_below (Nat.le_refl _) (Nat.le_refl _)) (fun _ => ItS.ownFrom_pure _ _) (Below.refl _ _) (fun _ => { tmps := #[], defers := [] }) (fun _ x => x.elim0) (fun _ _ x => x.elim0) ?_ (fun _ _ _ _ _ h => h.elim)
    rintro D' xs W hD rfl hbW hdef
    have k1w : Blk W (w.heap.size + 1) 4 #[.bool false] := (hbW.block _ K1w.out.lt).trans K1w.out
    have e1 := k1w.cell 0
    have e2 := k1w.frozen 0
    go_wp2_with fail
    have hin : ∀ D2 ∈ Ds, D2 < wr.heap.size := fun D2 hD2 => (Array.getElem?_eq_some_iff.1 (HDs.out.1 D2 hD2).1).1
    have hw3 := Hbr.out.size
    have hk3 := K13.out.lt
    have hge : ∀ D2 ∈ D' :: Ds, W3.heap.size ≤ D2 := by
      intro D2 hD2
      rcases List.mem_cons.1 hD2 with rfl | hm
      · omega
      · exact (HDs.out.1 D2 hm).2
    have hne : ∀ D2 ∈ D' :: Ds, D2 ≠ w.heap.size + 1 := fun D2 hD2 => by have := hge D2 hD2; omega
    refine ItS.leaves_marks (D' :: Ds) _ ?_ (List.nodup_cons.2 ⟨fun hm => by have := hin D' hm; omega, HDs.out.2⟩) (fun w' hw' => ?_)
    · intro D2 hD2
      refine (Below.heap_setCell _ ⟨w.heap.size + 1, 0, none⟩ _ D2 (hne D2 hD2)).trans ?_
      rcases List.mem_cons.1 hD2 with rfl | hm
      · exact hdef
      · exact (hbW.block D2 (hin D2 hm)).trans (HDs.out.1 D2 hm).1
    · have hc : w'.cell? ⟨w.heap.size + 1, 0, none⟩ = some (.bool true) := by
        have hk : w'.heap[w.heap.size + 1]? = (W.setCell ⟨w.heap.size + 1, 0, none⟩ (.bool true)).heap[w.heap.size + 1]? := hw'.2.2.2.2 (w.heap.size + 1) (fun hm => hne _ hm rfl)
        have := (k1w.set_ 0 (.bool true)).of_heap hk rfl
        simpa using this.cell 0
      refine ⟨.bool true, by simp [results, Try.f30, go_sem, hc], rfl, ?_⟩
      have hWB : Below w.heap.size w W := HbB.out.trans (hbW.mono HbB.out.size)
      exact (hWB.setCell (p := ⟨w.heap.size + 1, 0, none⟩) (by simp) _).trans (ItS.below_marks hw' (fun D2 hD2 => by have := hge D2 hD2; have := HB3.out.size; omega))
end
end Go.Proofs.Ytdinbhanekpjoaa
