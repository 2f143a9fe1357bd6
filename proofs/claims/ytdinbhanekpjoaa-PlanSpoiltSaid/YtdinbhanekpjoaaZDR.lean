/-
  The zone's Read at frame.Sector, and Xor.
-/
import Derived.Test.YtdinbhanekpjoaaZDA
import Derived.Test.YtdinbhanekpjoaaRow
namespace Go.Proofs.Ytdinbhanekpjoaa.ZD
open Go.RowKit

theorem row_range {b : Nat} {z : Zn Sec} {w : World} {F : Nat → Prop} (hz : At w b z F) (k : Nat) (hk : k < z.L.length) :
    ∃ g c, w.cell? ⟨b, 0, none⟩ = some (.slice (some ⟨g, 0, none⟩) z.L.length c) ∧ z.L.length ≤ c ∧ w.rangeAt g (k * 64) z.L[k].cs ∧ F g ∧ g ≠ b := by
  obtain ⟨A, c, hb, _, hown, hg, _⟩ := hz
  rcases hown.2 with ⟨h, h0⟩ | ⟨g, cap, cur, h, _, hh, hc, _, _, ht⟩
  · omega
  · simp only [Value.slice.injEq, true_and] at h
    obtain ⟨rfl, rfl⟩ := h
    refine ⟨g, c, hb.cell 0, hc, fun j v hv => ?_, hg g rfl⟩
    have hj : j < 64 := by rw [← z.L[k].len]; exact (List.getElem?_eq_some_iff.1 hv).1
    have := hown.cells (g := g) rfl (k * 64 + j) v (by rw [flat_get _ k hk j hj]; exact hv)
    simpa [Addr.add_lit] using this

theorem sizeRow (x : Sec) : (Try.prog.info? 34).map (·.size) = some x.cs.toArray.size := by rw [List.size_toArray]; exact sizeSec x

set_option maxRecDepth 100000 in
set_option maxHeartbeats 400000 in
theorem read_any (z : Zn Sec) (off : Int) (b : Nat) (w : World) (F : Nat → Prop) (hz : At w b z F) (_hn : z.L.length < 65536) :
    Calls Try.prog 65 #[.pointer (some ⟨b, 0, none⟩), .int .i64 off] w fun e w' =>
      e = .returned (.tuple #[(z.read Sec.zero off).1.agg, .int .i64 (z.read Sec.zero off).2]) ∧ Below w.heap.size w w' := by
  have hz' := hide hz
  obtain ⟨A, c, hb, hFb, hown, hg, hlt⟩ := hz
  have c0 : w.cell? ⟨b, 0, none⟩ = _ := hb.cell 0
  have c3 : w.cell? ⟨b, 3, none⟩ = _ := hb.cell 3
  simp only [List.getElem?_toArray, List.getElem?_cons_zero, List.getElem?_cons_succ] at c0 c3
  have hbl := hb.lt
  by_cases h4 : z.state = 4
  · have e4 : (z.state == 4) = true := by simp [h4]
    have hfin := hide (Zn.read_off Sec.zero off h4)
    clear h4
    go_enter Try.func65, Try.ntmps65
    go_upto_region 3 with (fail)
    generalize hW : (w.alloc _).alloc _ = W2
    have K0 : Hid (Blk W2 w.heap.size 34 Sec.zero.cs.toArray) := by rw [← hW]; exact hide ((Blk.new w _ _).alloc _)
    have K1 : Hid (Blk W2 (w.heap.size + 1) 34 Sec.zero.cs.toArray) := by
      have := Blk.new (w.alloc (.cells Sec.zero.cs.toArray 34)) 34 Sec.zero.cs.toArray
      rw [World.size_alloc] at this
      rw [← hW]
      exact hide this
    have hB2 : Below w.heap.size w W2 := by rw [← hW]; exact ((Below.refl _ w).alloc (Nat.le_refl _) _).alloc (by simp) _
    clear hW
    go_wp2_with (first | (refine wpList_load_row rfl 34 (.tmp 6) rfl (w.heap.size + 1) rfl 34 Sec.zero.cs.toArray (0, 0) _ K1.out Try.underlying34 rfl (sizeRow Sec.zero) ?_) | (refine wpList_store_row rfl 34 (.tmp 4) (.tmp 13) rfl w.heap.size Sec.zero.cs.toArray rfl rfl 34 Sec.zero.cs.toArray K0.out (sizeRow Sec.zero) (by simp [Sec.len]) (sec_all _) ?_))
    refine bodyPost_ret (v := .tuple #[Sec.zero.agg, .int .i64 32]) ?_ rfl ?_
    · exact results_sec2 (fn := Try.f65) (p := 4) (u := 5) rfl Try.underlying34 sizeS _ Sec.zero _ rfl rfl (K0.out.setRow _)
    · rw [hfin.out]
      exact ⟨rfl, below_setRow hB2 (Nat.le_refl _) _⟩
  · have e4 : (z.state == 4) = false := by simp [h4]
    by_cases hlo : off < 0
    · have hfin := hide (Zn.read_out Sec.zero off h4 (.inl hlo))
      clear h4
      go_enter Try.func65, Try.ntmps65
      go_upto_region 5 with (fail)
      generalize hW : (w.alloc _).alloc _ = W2
      have K0 : Hid (Blk W2 w.heap.size 34 Sec.zero.cs.toArray) := by rw [← hW]; exact hide ((Blk.new w _ _).alloc _)
      have K1 : Hid (Blk W2 (w.heap.size + 1) 34 Sec.zero.cs.toArray) := by
        have := Blk.new (w.alloc (.cells Sec.zero.cs.toArray 34)) 34 Sec.zero.cs.toArray
        rw [World.size_alloc] at this
        rw [← hW]
        exact hide this
      have hB2 : Below w.heap.size w W2 := by rw [← hW]; exact ((Below.refl _ w).alloc (Nat.le_refl _) _).alloc (by simp) _
      clear hW
      go_wp2_with (first | (refine wpList_load_row rfl 34 (.tmp 6) rfl (w.heap.size + 1) rfl 34 Sec.zero.cs.toArray (0, 0) _ K1.out Try.underlying34 rfl (sizeRow Sec.zero) ?_) | (refine wpList_store_row rfl 34 (.tmp 4) (.tmp 26) rfl w.heap.size Sec.zero.cs.toArray rfl rfl 34 Sec.zero.cs.toArray K0.out (sizeRow Sec.zero) (by simp [Sec.len]) (sec_all _) ?_))
      refine bodyPost_ret (v := .tuple #[Sec.zero.agg, .int .i64 31]) ?_ rfl ?_
      · exact results_sec2 (fn := Try.f65) (p := 4) (u := 5) rfl Try.underlying34 sizeS _ Sec.zero _ rfl rfl (K0.out.setRow _)
      · rw [hfin.out]
        exact ⟨rfl, below_setRow hB2 (Nat.le_refl _) _⟩
    · by_cases hhi : (z.L.length : Int) ≤ off
      · have hfin := hide (Zn.read_out Sec.zero off h4 (.inr hhi))
        clear h4
        go_enter Try.func65, Try.ntmps65
        go_upto_region 5 with (fail)
        generalize hW : (w.alloc _).alloc _ = W2
        have K0 : Hid (Blk W2 w.heap.size 34 Sec.zero.cs.toArray) := by rw [← hW]; exact hide ((Blk.new w _ _).alloc _)
        have K1 : Hid (Blk W2 (w.heap.size + 1) 34 Sec.zero.cs.toArray) := by
          have := Blk.new (w.alloc (.cells Sec.zero.cs.toArray 34)) 34 Sec.zero.cs.toArray
          rw [World.size_alloc] at this
          rw [← hW]
          exact hide this
        have hB2 : Below w.heap.size w W2 := by rw [← hW]; exact ((Below.refl _ w).alloc (Nat.le_refl _) _).alloc (by simp) _
        clear hW
        go_wp2_with (first | (refine wpList_load_row rfl 34 (.tmp 6) rfl (w.heap.size + 1) rfl 34 Sec.zero.cs.toArray (0, 0) _ K1.out Try.underlying34 rfl (sizeRow Sec.zero) ?_) | (refine wpList_store_row rfl 34 (.tmp 4) (.tmp 26) rfl w.heap.size Sec.zero.cs.toArray rfl rfl 34 Sec.zero.cs.toArray K0.out (sizeRow Sec.zero) (by simp [Sec.len]) (sec_all _) ?_))
        refine bodyPost_ret (v := .tuple #[Sec.zero.agg, .int .i64 31]) ?_ rfl ?_
        · exact results_sec2 (fn := Try.f65) (p := 4) (u := 5) rfl Try.underlying34 sizeS _ Sec.zero _ rfl rfl (K0.out.setRow _)
        · rw [hfin.out]
          exact ⟨rfl, below_setRow hB2 (Nat.le_refl _) _⟩
      · obtain ⟨k, rfl⟩ := Int.eq_ofNat_of_zero_le (Int.not_lt.1 hlo)
        have hk : k < z.L.length := by omega
        obtain ⟨g, c', c0', hc', ck, hFg, hgb⟩ := row_range hz'.out k hk
        have hgl := hlt g hFg
        have hfin := hide (Zn.read_in Sec.zero k h4 hk)
        have Hck := hide ck
        clear h4 c0 ck
        go_enter Try.func65, Try.ntmps65
        go_upto_region 6 with (fail)
        generalize hW : (w.alloc _).alloc _ = W2
        have K0 : Hid (Blk W2 w.heap.size 34 Sec.zero.cs.toArray) := by rw [← hW]; exact hide ((Blk.new w _ _).alloc _)
        have K1 : Hid (Blk W2 (w.heap.size + 1) 34 Sec.zero.cs.toArray) := by
          have := Blk.new (w.alloc (.cells Sec.zero.cs.toArray 34)) 34 Sec.zero.cs.toArray
          rw [World.size_alloc] at this
          rw [← hW]
          exact hide this
        have hB2 : Below w.heap.size w W2 := by rw [← hW]; exact ((Below.refl _ w).alloc (Nat.le_refl _) _).alloc (by simp) _
        clear hW
        have x0 : W2.cell? ⟨b, 0, none⟩ = some (.slice (some ⟨g, 0, none⟩) z.L.length c') := (hB2.cell (p := ⟨b, 0, none⟩) hbl).trans c0'
        have Xr : Hid (W2.rangeAt g (k * 64) z.L[k].cs) := hide (fun j v hv => (hB2.cell (p := ⟨g, k * 64 + j, none⟩) hgl).trans (Hck.out j v hv))
        go_wp2_with (first | (refine wpList_load_mid rfl 34 (.tmp 32) rfl g (k * 64) rfl z.L[k].cs _ Xr.out Try.underlying34 rfl (sizeSec _) ?_) | (refine wpList_store_row rfl 34 (.tmp 4) (.tmp 33) rfl w.heap.size z.L[k].cs.toArray rfl rfl 34 Sec.zero.cs.toArray K0.out (sizeRow z.L[k]) (by simp [Sec.len]) (sec_all _) ?_))
        refine bodyPost_ret (v := .tuple #[z.L[k].agg, .int .i64 0]) ?_ rfl ?_
        · exact results_sec2 (fn := Try.f65) (p := 4) (u := 5) rfl Try.underlying34 sizeS _ z.L[k] _ rfl rfl (K0.out.setRow _)
        · rw [hfin.out]
          exact ⟨rfl, below_setRow hB2 (Nat.le_refl _) _⟩
end Go.Proofs.Ytdinbhanekpjoaa.ZD
