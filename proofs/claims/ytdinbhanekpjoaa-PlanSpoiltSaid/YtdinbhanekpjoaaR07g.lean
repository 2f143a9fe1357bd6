/-
  The document's device: Flush.
-/
import Derived.Test.YtdinbhanekpjoaaR07f
import Derived.Test.YtdinbhanekpjoaaDM6
namespace Go.Proofs.Ytdinbhanekpjoaa.R7
open Go.RowKit
/-- In the midst of a method: the device's variable lies in the first new block, the result's in the second. -/
def Held (w : World) (G : Nat → Prop) (D' : Dv) (wr : World) : Prop :=
  ∃ A' c' es', Blk wr w.heap.size 31 #[.slice A' D'.zs.length c', .int .i64 D'.size, .int .i64 D'.op, .int .i64 (D'.n : Int), .bool D'.down] ∧
    Blk wr (w.heap.size + 1) 31 #[.slice none 0 0, .int .i64 0, .int .i64 0, .int .i64 0, .bool false] ∧
    RefIs wr D' A' c' es' (fun j => (G j ∧ j < w.heap.size) ∨ w.heap.size + 2 ≤ j) ∧ Below w.heap.size w wr
theorem Held.below {w wr w' : World} {G : Nat → Prop} {D' : Dv} (h : Held w G D' wr) (hb : Below wr.heap.size wr w') : Held w G D' w' := by
  obtain ⟨A', c', es', k0, k1, hr, hB⟩ := h
  exact ⟨A', c', es', (hb.block _ k0.lt).trans k0, (hb.block _ k1.lt).trans k1, hr.below hb, hB.trans (hb.mono hB.size)⟩
/-- Behind put: its device is stored into the variable's own block. -/
theorem Held.put {w W3 w4 : World} {G : Nat → Prop} {D' D'' : Dv} {A : Option Addr} {c : Nat} {es : List RZ} (h : Held w G D' W3)
    (href : RefIs w4 D'' A c es (fun j => ((G j ∧ j < w.heap.size) ∨ w.heap.size + 2 ≤ j) ∨ W3.heap.size ≤ j)) (hb : Below W3.heap.size W3 w4) :
    Held w G D'' (((((w4.setCell ⟨w.heap.size, 0, none⟩ (.slice A D''.zs.length c)).setCell ⟨w.heap.size, 1, none⟩ (.int .i64 D''.size)).setCell ⟨w.heap.size, 2, none⟩ (.int .i64 D''.op)).setCell ⟨w.heap.size, 3, none⟩ (.int .i64 (D''.n : Int))).setCell ⟨w.heap.size, 4, none⟩ (.bool D''.down)) := by
  obtain ⟨A', c', es', k0, k1, hr, hB⟩ := h
  have l1 := k1.lt
  have hs := hB.size
  have hm := Mods.set5 (fun k => k = w.heap.size) w4 w.heap.size (.slice A D''.zs.length c) (.int .i64 D''.size) (.int .i64 D''.op) (.int .i64 (D''.n : Int)) (.bool D''.down) rfl
  have k04 : Blk w4 w.heap.size 31 _ := (hb.block _ k0.lt).trans k0
  have k14 : Blk w4 (w.heap.size + 1) 31 _ := (hb.block _ k1.lt).trans k1
  have hs4 := hb.size
  refine ⟨A, c, es, Blk.set5 k04 _ _ _ _ _, k14.mods hm (by omega), (href.mods hm (fun k hk _ e => ?_)).mono (fun k hk => ?_), (hB.trans (hb.mono hs)).trans (hm.below (by omega) (fun k e => by omega))⟩
  · subst e
    rcases hk with (hk | hk) | hk <;> omega
  · rcases hk with hk | hk
    · exact hk
    · right; omega
/-- At the end: the variable is stored into the result's block. -/
theorem Held.gave {w wr : World} {G : Nat → Prop} {D' : Dv} {A : Option Addr} {c : Nat} {es : List RZ} {v0 v1 v2 v3 v4 : Value} (hr : RefIs wr D' A c es (fun j => (G j ∧ j < w.heap.size) ∨ w.heap.size + 2 ≤ j)) (hB : Below w.heap.size w wr) :
    RefIs (((((wr.setCell ⟨w.heap.size + 1, 0, none⟩ v0).setCell ⟨w.heap.size + 1, 1, none⟩ v1).setCell ⟨w.heap.size + 1, 2, none⟩ v2).setCell ⟨w.heap.size + 1, 3, none⟩ v3).setCell ⟨w.heap.size + 1, 4, none⟩ v4) D' A c es (fun k => G k ∨ w.heap.size ≤ k) ∧
    Below w.heap.size w (((((wr.setCell ⟨w.heap.size + 1, 0, none⟩ v0).setCell ⟨w.heap.size + 1, 1, none⟩ v1).setCell ⟨w.heap.size + 1, 2, none⟩ v2).setCell ⟨w.heap.size + 1, 3, none⟩ v3).setCell ⟨w.heap.size + 1, 4, none⟩ v4) := by
  have hm := Mods.set5 (fun k => k = w.heap.size + 1) wr (w.heap.size + 1) v0 v1 v2 v3 v4 rfl
  have hs := hB.size
  exact ⟨(hr.mods hm (fun k hk _ e => by subst e; rcases hk with hk | hk <;> omega)).mono (fun k hk => by rcases hk with hk | hk; exact .inl hk.1; right; omega), hB.trans (hm.below (by omega) (fun k e => by omega))⟩

section
variable {w : World} {D : Dv} {A : Option Addr} {c : Nat} {es : List RZ} {G : Nat → Prop}
set_option maxRecDepth 100000 in
set_option maxHeartbeats 1000000 in
theorem flush_any (h : RefIs w D A c es G) (hn : D.n < 65536) (hl : D.zs.length < 65536) : Calls Try.prog 52 #[.agg #[.slice A D.zs.length c, .int .i64 D.size, .int .i64 D.op, .int .i64 (D.n : Int), .bool D.down]] w (Gave w G D.flush.1 D.flush.2) := by
  have hB : Below w.heap.size w ((w.alloc (.cells #[.slice A D.zs.length c, .int .i64 D.size, .int .i64 D.op, .int .i64 (D.n : Int), .bool D.down] 31)).alloc (.cells #[.slice none 0 0, .int .i64 0, .int .i64 0, .int .i64 0, .bool false] 31)) := ((Below.refl _ w).alloc (Nat.le_refl _) _).alloc (by simp) _
  have k0 := (Blk.new w 31 #[.slice A D.zs.length c, .int .i64 D.size, .int .i64 D.op, .int .i64 (D.n : Int), .bool D.down]).alloc (.cells #[.slice none 0 0, .int .i64 0, .int .i64 0, .int .i64 0, .bool false] 31)
  have k1 := Blk.new (w.alloc (.cells #[.slice A D.zs.length c, .int .i64 D.size, .int .i64 D.op, .int .i64 (D.n : Int), .bool D.down] 31)) 31 #[.slice none 0 0, .int .i64 0, .int .i64 0, .int .i64 0, .bool false]
  rw [World.size_alloc] at k1
  have h' := hide h
  have Hl := hide hl
  by_cases hd : D.down = true
  · have hfin := hide (Dv.flush_down hd)
    have Hd := hide hd
    clear h hl hB k0 k1
    rw [hd]
    clear hd
    go_enter Try.func52, Try.ntmps52
    go_wp2_with fail
    refine bodyPost_ret (v := .tuple #[.agg #[.slice A D.zs.length c, .int .i64 D.size, .int .i64 D.op, .int .i64 (D.n : Int), .bool true], .int .i64 34]) (by simp [results, Try.results52, go_sem]) rfl ?_
    have hB : ∀ o1 o2, Below w.heap.size w ((w.alloc o1).alloc o2) := fun _ _ => ((Below.refl _ w).alloc (Nat.le_refl _) _).alloc (by simp) _
    rw [hfin.out]
    refine ⟨A, c, es, ?_, (h'.out.below (hB _ _)).mono (fun _ hk => .inl hk), hB _ _⟩
    rw [Hd.out]
  · have hfin := hide (Dv.flush_up hd)
    clear hB k0 k1
    rw [Bool.not_eq_true] at hd
    have hB : Below w.heap.size w ((w.alloc (.cells #[.slice A D.zs.length c, .int .i64 D.size, .int .i64 D.op, .int .i64 ((D.n : Int) + 1), .bool false] 31)).alloc (.cells #[.slice none 0 0, .int .i64 0, .int .i64 0, .int .i64 0, .bool false] 31)) := ((Below.refl _ w).alloc (Nat.le_refl _) _).alloc (by simp) _
    have k0 := (Blk.new w 31 #[.slice A D.zs.length c, .int .i64 D.size, .int .i64 D.op, .int .i64 ((D.n : Int) + 1), .bool false]).alloc (.cells #[.slice none 0 0, .int .i64 0, .int .i64 0, .int .i64 0, .bool false] 31)
    have k1 := Blk.new (w.alloc (.cells #[.slice A D.zs.length c, .int .i64 D.size, .int .i64 D.op, .int .i64 ((D.n : Int) + 1), .bool false] 31)) 31 #[.slice none 0 0, .int .i64 0, .int .i64 0, .int .i64 0, .bool false]
    rw [World.size_alloc] at k1
    have h0 : Held w G D.tick ((w.alloc (.cells #[.slice A D.zs.length c, .int .i64 D.size, .int .i64 D.op, .int .i64 ((D.n : Int) + 1), .bool false] 31)).alloc (.cells #[.slice none 0 0, .int .i64 0, .int .i64 0, .int .i64 0, .bool false] 31)) := ⟨A, c, es, by rw [show D.tick.down = false from hd]; exact k0, k1, (h.tight.below hB).tick.mono (fun _ h => .inl h), hB⟩
    have H0 := hide h0
    have Hd := hide hd
    rw [hd]
    clear h hl hB h0 hd k0 k1
    go_enter Try.func52, Try.ntmps52
    go_wp2_with fail
    generalize (w.alloc (.cells #[.slice A D.zs.length c, .int .i64 D.size, .int .i64 D.op, .int .i64 ((D.n : Int) + 1), .bool false] 31)).alloc (.cells #[.slice none 0 0, .int .i64 0, .int .i64 0, .int .i64 0, .bool false] 31) = W2 at H0 ⊢
    go_loopw [4, 5] (fun i _ wr => ∃ k : Nat, k ≤ D.zs.length ∧ i = .int .i64 k ∧ Held w G (D.tick.mapTo (fun _ z => z.flush) k) wr) (fun i _ _ => D.zs.length - (intOf i).toNat)
    case atStart => exact ⟨0, by omega, rfl, by rw [Dv.mapTo_zero]; exact H0.out⟩
    case round =>
      obtain ⟨k, hk, rfl, h1⟩ := hrel
      have H1 := hide h1
      obtain ⟨A1, c1, es1, k0, k1, hr, hB⟩ := h1
      have hlk : (D.tick.mapTo (fun _ z => z.flush) k).zs.length = D.zs.length := Dv.mapTo_length _ _ _
      by_cases hlt : k < D.zs.length
      · have hk1 : k < (D.tick.mapTo (fun _ z => z.flush) k).zs.length := by rw [hlk]; exact hlt
        have Hget : Hid ((D.tick.mapTo (fun _ z => z.flush) k).zs[k] = D.zs[k]) := hide (Dv.mapTo_get D.tick _ k hlt)
        have Hsucc := hide (Dv.mapTo_succ D.tick (fun _ z => z.flush) k hlt)
        have Hget' : Hid ((D.tick.mapTo (fun _ z => z.flush) k).zs[k] = D.tick.zs[k]) := Hget
        rw [← Hget'.out] at Hsucc
        have hl1 : D.zs.length < 65536 := Hl.out
        have Hl1 : Hid ((D.tick.mapTo (fun _ z => z.flush) k).zs.length < 65536) := hide (by rw [hlk]; exact hl1)
        clear Hget Hget' hlk H1
        generalize D.tick.mapTo (fun _ z => z.flush) k = Dk at k0 hr hk1 Hsucc Hl1
        have H1 : Hid (Held w G Dk wr) := hide ⟨A1, c1, es1, k0, k1, hr, hB⟩
        obtain ⟨s0, s1, s2, s3, s4, -⟩ := k0.five
        obtain ⟨g, rfl, hlc, hgl, hk', hez, x0, x1, x2, x3⟩ := hr.at_ hk1
        have hrow := hr.row _ (List.getElem_mem hk')
        have hrin := hr.inG.2 _ (List.getElem_mem hk')
        rw [hez] at hrow hrin
        have Hrow := hide hrow
        have Hrin := hide hrin
        have Hr := hide hr
        have K0 := hide k0
        clear hrow hrin hr hez k0 k1 hB
        go_upto_region 9 with (fail)
        have hb1 : Below wr.heap.size wr (wr.alloc (.cells #[.slice es1[k].a Dk.zs[k].L.length es1[k].c, .int .i64 (Dk.zs[k].L.length : Int), .int .i64 Dk.zs[k].state, .bool Dk.zs[k].fin] 93)) := (Below.refl _ wr).alloc (Nat.le_refl _) _
        have kz := Blk.new wr 93 #[.slice es1[k].a Dk.zs[k].L.length es1[k].c, .int .i64 (Dk.zs[k].L.length : Int), .int .i64 Dk.zs[k].state, .bool Dk.zs[k].fin]
        have k0 := (hb1.block _ K0.out.lt).trans K0.out
        have k0 : Blk (wr.alloc (.cells #[.slice es1[k].a Dk.zs[k].L.length es1[k].c, .int .i64 (Dk.zs[k].L.length : Int), .int .i64 Dk.zs[k].state, .bool Dk.zs[k].fin] 93)) w.heap.size 31 _ := k0
        have H2 := hide (H1.out.below hb1)
        have Hr2 := hide (Hr.out.below hb1)
        have Hrow2 := hide (Hrow.out.mods' hb1)
        clear hb1 s0 s1 s2 s3 s4 x0 x1 x2 x3
        generalize wr.alloc (.cells #[.slice es1[k].a Dk.zs[k].L.length es1[k].c, .int .i64 (Dk.zs[k].L.length : Int), .int .i64 Dk.zs[k].state, .bool Dk.zs[k].fin] 93) = w2 at kz k0 H2 Hr2 Hrow2 ⊢
        obtain ⟨s0, s1, s2, s3, s4, f0, f1, f2, f3, f4⟩ := k0.five
        obtain ⟨x0, x1, x2, x3, -⟩ := kz.four
        have K0' := hide k0
        have Hput := hide (put_any Hr2.out Hl1.out k hk1 ⟨Dk.zs[k].flush, es1[k].a, es1[k].c⟩ Hrow2.out Hrin.out)
        clear k0 kz
        go_wp2_with fail
        refine Hput.out.mono ?_
        rintro e w4 ⟨A', c', es', rfl, href, hb4⟩
        have k4 : Blk w4 w.heap.size 31 _ := (hb4.block _ K0'.out.lt).trans K0'.out
        clear s0 s1 s2 s3 s4 f0 f1 f2 f3 f4
        obtain ⟨s0, s1, s2, s3, s4, f0, f1, f2, f3, f4⟩ := k4.five
        have Hnew := hide (H2.out.put href hb4)
        clear href hb4 k4
        go_wp2_with fail
        go_roundw
        case rel =>
          refine ⟨k + 1, by omega, by go_num, ?_⟩
          rw [← Hsucc.out]
          exact Hnew.out
        case measure => simp [intOf]; omega
      · obtain rfl : k = D.zs.length := by omega
        obtain ⟨s0, s1, s2, s3, s4, f0, f1, f2, f3, f4⟩ := k0.five
        obtain ⟨r0, r1, r2, r3, r4, g0, g1, g2, g3, g4⟩ := k1.five
        have K1 := hide k1
        have Hr := hide hr
        have HB := hide hB
        rw [hlk] at s0
        have Hlk := hide hlk
        clear k0 k1 hr hB hlk
        go_wp2_with fail
        refine bodyPost_ret (v := .tuple #[.agg #[.slice A1 D.zs.length c1, .int .i64 D.size, .int .i64 D.op, .int .i64 (D.tick.n : Int), .bool D.down], .int .i64 0]) ?_ rfl ?_
        · exact results_dev2 (fn := Try.f52) (p := 2) (u := 3) (g := w.heap.size + 1) rfl _ _ _ _ _ _ _ rfl rfl (Blk.set5 K1.out _ _ _ _ _)
        · rw [hfin.out]
          obtain ⟨t1, t2⟩ := Held.gave (v0 := .slice A1 D.zs.length c1) (v1 := .int .i64 D.size) (v2 := .int .i64 D.op) (v3 := .int .i64 (D.tick.n : Int)) (v4 := .bool D.down) Hr.out HB.out
          exact ⟨A1, c1, es1, by rw [Hlk.out]; rfl, t1, t2⟩
end
end Go.Proofs.Ytdinbhanekpjoaa.R7
