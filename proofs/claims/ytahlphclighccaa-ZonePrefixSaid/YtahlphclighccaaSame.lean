/-
  same (revetmentlaw06): it answers true where the zone and the document's zone are one plain zone.
-/
import Derived.Test.YtahlphclighccaaIter
import Derived.Test.YtahlphclighccaaStepAny
namespace Go.Proofs.Ytahlphclighccaa
open Go.RowKit Go.Shelf It ZI

attribute [local go_sem] Oper.semAt_some

set_option maxHeartbeats 400000 in
theorem slicesAll_any (A : Option Addr) (n c : Nat) (w : World) :
    Calls Try.prog 31 #[.slice A n c] w fun e w' => e = .returned (.func (.func 42) #[] #[.pointer (some ⟨w.heap.size, 0, none⟩)]) ∧ w.alloc (.cells #[.slice A n c] 39) = w' := by
  go_enter Try.func31, Try.ntmps31
  go_wp2
  go_ret
  exact ⟨rfl, rfl⟩

set_option maxHeartbeats 400000 in
theorem all_any (b : Nat) (A : Option Addr) (n c : Nat) (w : World) (hc : w.cell? ⟨b, 0, none⟩ = some (.slice A n c)) :
    Calls Try.prog 23 #[.pointer (some ⟨b, 0, none⟩)] w fun e w' => e = .returned (.func (.func 42) #[] #[.pointer (some ⟨w.heap.size, 0, none⟩)]) ∧ w.alloc (.cells #[.slice A n c] 39) = w' := by
  go_enter Try.func23, Try.ntmps23
  go_wp2_with (go_at_call 31; refine (slicesAll_any _ _ _ _).mono ?_; rintro e w' ⟨rfl, rfl⟩)
  go_ret
  exact ⟨rfl, rfl⟩

set_option maxRecDepth 100000 in
set_option maxHeartbeats 2000000 in
theorem same_any (z : Zn Int) (b : Nat) (A : Option Addr) (c : Nat) (w : World) (F G : Nat → Prop) (h : Both w b z A c z F G) (hlen : z.L.length < 65536) :
    Calls Try.prog 27 #[.pointer (some ⟨b, 0, none⟩), .agg #[.slice A z.L.length c, .int .i64 z.size, .int .i64 (z.safe : Int), .int .i64 z.state, .bool z.fin]] w fun e w' => e = .returned (.bool true) ∧ Below w.heap.size w w' := by
  obtain ⟨Az, cz, hzb, hFb, hown, hgz, hltz⟩ := h.zone
  have hbl := hzb.lt
  have hzI := Ints.of_own hown
  have hrI := Ints.of_own h.ref.1
  refine calls_of_wp_marks Try.func27 rfl ?_
  simp only [Try.ntmps27, List.size_toArray, List.length_cons, List.length_nil, Nat.reduceAdd, Nat.reduceSub, Array.replicate_succ, Array.replicate_zero, List.push_toArray, List.append_toArray, List.nil_append, List.cons_append]
  have hz0 : w.cell? ⟨b, 0, none⟩ = some (.slice Az z.L.length cz) := hzb.cell 0
  have hzI' := hide hzI
  have hrI' := hide hrI
  have h' := hide h
  clear hzb hFb hown hgz hltz hzI hrI h
  go_wp2_with fail
  go_at_call 23
  refine (all_any b Az z.L.length cz _ ?_).mono ?_
  · have hB := ((Below.refl w.heap.size w).alloc (Nat.le_refl _) (.cells #[.slice A z.L.length c, .int .i64 z.size, .int .i64 (z.safe : Int), .int .i64 z.state, .bool z.fin] 49)).alloc (by simp) (.cells #[.bool false] 4) |>.alloc (by simp; omega) (.cells #[.int .i64 0] 3)
    exact (hB.cell (p := ⟨b, 0, none⟩) hbl).trans hz0
  · rintro e w1 ⟨rfl, rfl⟩
    go_wp2_with fail
    rename_i Q' K' hK
    have hB := ((Below.refl w.heap.size w).alloc (Nat.le_refl _) (.cells #[.slice A z.L.length c, .int .i64 z.size, .int .i64 (z.safe : Int), .int .i64 z.state, .bool z.fin] 49)).alloc (by simp) (.cells #[.bool false] 4) |>.alloc (by simp; omega) (.cells #[.int .i64 0] 3) |>.alloc (by simp; omega) (.cells #[.slice Az z.L.length cz] 39)
    have k0 : Blk _ w.heap.size 49 #[.slice A z.L.length c, .int .i64 z.size, .int .i64 (z.safe : Int), .int .i64 z.state, .bool z.fin] := (((Blk.new w _ _).alloc (.cells #[.bool false] 4)).alloc (.cells #[.int .i64 0] 3)).alloc (.cells #[.slice Az z.L.length cz] 39)
    have k1 : Blk ((((w.alloc (.cells #[.slice A z.L.length c, .int .i64 z.size, .int .i64 (z.safe : Int), .int .i64 z.state, .bool z.fin] 49)).alloc (.cells #[.bool false] 4)).alloc (.cells #[.int .i64 0] 3)).alloc (.cells #[.slice Az z.L.length cz] 39)) (w.heap.size + 1) 4 #[.bool false] := by
      have := ((Blk.new (w.alloc (.cells #[.slice A z.L.length c, .int .i64 z.size, .int .i64 (z.safe : Int), .int .i64 z.state, .bool z.fin] 49)) 4 #[.bool false]).alloc (.cells #[.int .i64 0] 3)).alloc (.cells #[.slice Az z.L.length cz] 39)
      rwa [World.size_alloc] at this
    have k2 : Blk ((((w.alloc (.cells #[.slice A z.L.length c, .int .i64 z.size, .int .i64 (z.safe : Int), .int .i64 z.state, .bool z.fin] 49)).alloc (.cells #[.bool false] 4)).alloc (.cells #[.int .i64 0] 3)).alloc (.cells #[.slice Az z.L.length cz] 39)) (w.heap.size + 1 + 1) 3 #[.int .i64 0] := by
      have := ((Blk.new ((w.alloc (.cells #[.slice A z.L.length c, .int .i64 z.size, .int .i64 (z.safe : Int), .int .i64 z.state, .bool z.fin] 49)).alloc (.cells #[.bool false] 4)) 3 #[.int .i64 0])).alloc (.cells #[.slice Az z.L.length cz] 39)
      rwa [World.size_alloc, World.size_alloc] at this
    have k3 : Blk ((((w.alloc (.cells #[.slice A z.L.length c, .int .i64 z.size, .int .i64 (z.safe : Int), .int .i64 z.state, .bool z.fin] 49)).alloc (.cells #[.bool false] 4)).alloc (.cells #[.int .i64 0] 3)).alloc (.cells #[.slice Az z.L.length cz] 39)) (w.heap.size + 1 + 1 + 1) 39 #[.slice Az z.L.length cz] := by
      have := Blk.new (((w.alloc (.cells #[.slice A z.L.length c, .int .i64 z.size, .int .i64 (z.safe : Int), .int .i64 z.state, .bool z.fin] 49)).alloc (.cells #[.bool false] 4)).alloc (.cells #[.int .i64 0] 3)) 39 #[.slice Az z.L.length cz]
      rwa [World.size_alloc, World.size_alloc, World.size_alloc] at this
    obtain ⟨W4, hW4⟩ : ∃ W4, W4 = (((w.alloc (.cells #[.slice A z.L.length c, .int .i64 z.size, .int .i64 (z.safe : Int), .int .i64 z.state, .bool z.fin] 49)).alloc (.cells #[.bool false] 4)).alloc (.cells #[.int .i64 0] 3)).alloc (.cells #[.slice Az z.L.length cz] 39) := ⟨_, rfl⟩
    rw [← hW4] at hB k0 k1 k2 k3 ⊢
    clear hW4
    have hlt3 := k3.lt
    refine wp_rangeFunc_own rfl (fun _ _ => rfl) (encs := encs z.L) (n₀ := w.heap.size) (all_stops Fence.wide 8 trivial rfl (by omega) _ w.heap.size Az cz z.L (by omega) W4 hlt3 hB.size (k3.cell 0) (hzI'.out.below hB)) hB.size (fun _ => rfl)
      (fun pre W => Blk W w.heap.size 49 #[.slice A z.L.length c, .int .i64 z.size, .int .i64 (z.safe : Int), .int .i64 z.state, .bool z.fin] ∧ Blk W (w.heap.size + 1) 4 #[.bool false] ∧ Blk W (w.heap.size + 1 + 1) 3 #[.int .i64 (pre.length : Int)] ∧ Below w.heap.size w W)
      (fun _ pre _ => ∃ (p : List (Fin z.L.length)) (x : Fin z.L.length), pre = p ++ [x] ∧ x.1 ≠ p.length) ?_ (fun _ => ownFrom_pure _ _) ⟨k0, k1, k2, hB⟩
      (fun x => { tmps := #[.pointer (some ⟨b, 0, none⟩), .agg #[.slice A z.L.length c, .int .i64 z.size, .int .i64 (z.safe : Int), .int .i64 z.state, .bool z.fin], undef, .pointer (some ⟨w.heap.size, 0, none⟩), .pointer (some ⟨w.heap.size + 1, 0, none⟩), .pointer (some ⟨w.heap.size + 1 + 1, 0, none⟩), .int .i64 (x.1 : Int), .int .i64 z.L[x.1], .pointer (some ⟨b, 0, none⟩), .func (.func 42) #[] #[.pointer (some ⟨w.heap.size + 1 + 1 + 1, 0, none⟩)], .int .i64 (x.1 : Int), .int .i64 z.L[x.1], undef, undef, undef, undef, undef, undef, undef, undef, undef, undef, undef, undef, undef, undef, undef, undef, undef, undef, undef, undef, undef, undef, undef, undef, undef, undef, undef, undef, undef, undef, undef, undef, undef, undef, undef, undef, undef, undef, undef, undef, undef, undef, undef, undef, undef, undef], defers := [] })
      ?_ ?_ ?_ ?_
    · exact (ownFrom_blk _ _ _ _).and ((ownFrom_blk _ _ _ _).and ((ownFrom_blk' _ _ _ (fun (pre : List (Fin z.L.length)) => #[.int .i64 (pre.length : Int)])).and (ownFrom_below (Nat.le_refl _) hB.size)))
    · intro l x W K hK
      dsimp only [encs]
      gi_wp2
      exact hK
    · rintro l pre ⟨i, hl⟩ W ⟨i0, i1, i2, iB⟩ hpre
      obtain ⟨bo, off, hA, hbo, hce⟩ := (hrI'.out.below iB) i hl
      subst hA
      obtain ⟨x0, x1, x2, x3, x4, -⟩ := i0.five
      have c1 : W.cell? ⟨w.heap.size + 1, 0, none⟩ = some (.bool false) := i1.cell 0
      have c2 : W.cell? ⟨w.heap.size + 1 + 1, 0, none⟩ = some (.int .i64 (pre.length : Int)) := i2.cell 0
      have f1 := i1.frozen 0
      have f2 := i2.frozen 0
      have hge : decide (z.L.length ≤ i) = false := by simp [hl]
      by_cases hx : i = pre.length
      · subst hx
        clear hK
        gi_wp2
        refine ⟨?_, ?_, ?_, ?_, ?_, ?_⟩
        · exact keepsFrom_setCell W (p := ⟨w.heap.size + 1 + 1, 0, none⟩) (by simp; omega) _
        · exact (Below.refl w.heap.size W).setCell (p := ⟨w.heap.size + 1 + 1, 0, none⟩) (by simp; omega) _
        · exact i0.far (p := ⟨w.heap.size + 1 + 1, 0, none⟩) (by simp; omega) _
        · exact i1.far (p := ⟨w.heap.size + 1 + 1, 0, none⟩) (by simp) _
        · simpa using i2.set_ 0 (.int .i64 ((pre.length : Int) + 1))
        · exact iB.setCell (p := ⟨w.heap.size + 1 + 1, 0, none⟩) (by simp; omega) _
      · have hxe : ((i : Int) != (pre.length : Int)) = true := bne_iff_ne.2 (by omega)
        have hx' := hide hx
        clear hK hx
        gi_wp2
        exact ⟨keepsFrom_setCell W (p := ⟨w.heap.size + 1, 0, none⟩) (by simp; omega) _, _, _, rfl, hx'.out⟩
    · rintro D xs W hD rfl ⟨i0, i1, i2, iB⟩ hdef
      refine hK _ _ ?_
      have hl := upto_length (Nat.le_refl z.L.length)
      rw [hl] at i2
      obtain ⟨x0, x1, x2, x3, x4, -⟩ := i0.five
      have c1 : W.drew.cell? ⟨w.heap.size + 1, 0, none⟩ = some (.bool false) := i1.cell 0
      have c2 : W.cell? ⟨w.heap.size + 1 + 1, 0, none⟩ = some (.int .i64 (z.L.length : Int)) := i2.cell 0
      have f1 : W.drew.frozen? ⟨w.heap.size + 1, 0, none⟩ = false := i1.frozen 0
      obtain ⟨Az', cz', hzb', -⟩ := (h'.out.below iB).zone
      obtain ⟨z0, z1, z2, z3, z4, -⟩ := hzb'.five
      have hlen := hide ((len_any b _ _ _ W.drew z0).mono (fun _ _ h => (⟨h.1, h.2.symm⟩ : _ ∧ _ = W.drew)))
      have hstate := hide ((state_any b _ W.drew z3).mono (fun _ _ h => (⟨h.1, h.2.symm⟩ : _ ∧ _ = W.drew)))
      have hsafe := hide ((safe_any b _ W.drew z2).mono (fun _ _ h => (⟨h.1, h.2.symm⟩ : _ ∧ _ = W.drew)))
      clear hK hzb'
      go_upto_region 8 with (fail)
      refine wp_region_still_tail 25 (by kernel_rfl) (by kernel_rfl) ?_
      simp only [List.take_succ_cons, List.take_zero, List.drop_succ_cons, List.drop_zero]
      repeat still_step
      still_call hlen.out
      repeat still_step
      still_call hstate.out
      repeat still_step
      still_call hsafe.out
      repeat still_step
      refine wpStill_nil ?_
      change wpList _ _ _ _ _ W.drew
      go_wp2_with fail
      refine leaves_marks [D] _ ?_ (by simp) (fun w' hw' => ?_)
      · intro D' hD'
        obtain rfl := List.mem_singleton.1 hD'
        exact (Below.heap_setCell _ ⟨w.heap.size + 1, 0, none⟩ _ D' (by simp; omega)).trans hdef
      · have hc : w'.cell? ⟨w.heap.size + 1, 0, none⟩ = some (.bool true) := by
          have hk : w'.heap[w.heap.size + 1]? = (W.setCell ⟨w.heap.size + 1, 0, none⟩ (.bool true)).heap[w.heap.size + 1]? := hw'.2.2.2.2 (w.heap.size + 1) (by simp; omega)
          have := (i1.set_ 0 (.bool true)).of_heap hk rfl
          simpa using this.cell 0
        refine ⟨.bool true, by simp [results, Try.f27, go_sem, hc], rfl, ?_⟩
        exact (iB.setCell (p := ⟨w.heap.size + 1, 0, none⟩) (by simp) _).trans (below_marks hw' (fun D' hD' => by
          obtain rfl := List.mem_singleton.1 hD'
          omega))
    · rintro D cc pre W hD ⟨k, hk, rfl⟩ ⟨p, x, hp, hx⟩ hdef
      exact absurd (upto_last hk hp) hx
end Go.Proofs.Ytahlphclighccaa
