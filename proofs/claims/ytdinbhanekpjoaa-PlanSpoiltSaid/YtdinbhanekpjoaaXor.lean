/-
  A sector's Xor, and the function that Spoil hands to Change.
-/
import Derived.Test.YtdinbhanekpjoaaZDR
import Derived.StillTailTactics
namespace Go.Proofs.Ytdinbhanekpjoaa.ZD
open Go.RowKit

/-- What the sector holds when k bytes are turned. -/
def xorTo (s p : Sec) (k : Nat) : Array Value := ((s.xor p).cs.take k ++ s.cs.drop k).toArray
theorem xorTo_zero (s p : Sec) : xorTo s p 0 = s.cs.toArray := by simp [xorTo]
theorem xorTo_all (s p : Sec) : xorTo s p 64 = (s.xor p).cs.toArray := by
  simp [xorTo, List.take_of_length_le (Nat.le_of_eq (s.xor p).len), List.drop_of_length_le (Nat.le_of_eq s.len)]
theorem xorTo_size (s p : Sec) (k : Nat) (hk : k ≤ 64) : (xorTo s p k).size = 64 := by
  simp [xorTo, (s.xor p).len, s.len]; omega
theorem xorTo_get (s p : Sec) (k : Nat) (hk : k < 64) : (xorTo s p k)[k]? = s.cs[k]? := by
  simp only [xorTo, List.getElem?_toArray]
  rw [List.getElem?_append_right (by rw [List.length_take]; omega), List.length_take, (s.xor p).len, Nat.min_eq_left (by omega), Nat.sub_self, List.getElem?_drop]
  rfl
theorem xorTo_succ (s p : Sec) (k : Nat) (hk : k < 64) (v : Value) (hv : (s.xor p).cs[k]? = some v) : (xorTo s p k).setIfInBounds k v = xorTo s p (k + 1) := by
  apply Array.ext_getElem?
  intro i
  have hl := (s.xor p).len
  have hl2 := s.len
  rw [Array.getElem?_setIfInBounds]
  by_cases hik : k = i
  · subst hik
    rw [if_pos rfl, if_pos (by rw [xorTo_size s p k (by omega)]; exact hk)]
    simp only [xorTo, List.getElem?_toArray]
    rw [List.getElem?_append_left (by simp; omega), List.getElem?_take, if_pos (by omega), hv]
  · rw [if_neg hik]
    simp only [xorTo, List.getElem?_toArray]
    by_cases h : i < k
    · rw [List.getElem?_append_left (by simp; omega), List.getElem?_append_left (by simp; omega), List.getElem?_take, List.getElem?_take, if_pos h, if_pos (by omega)]
    · rw [List.getElem?_append_right (by simp; omega), List.getElem?_append_right (by simp; omega), List.getElem?_drop, List.getElem?_drop]
      congr 1
      simp
      omega
theorem xor_get (s p : Sec) (k : Nat) (a b : Int) (ha : s.cs[k]? = some (.int .u8 a)) (hb : p.cs[k]? = some (.int .u8 b)) : (s.xor p).cs[k]? = some (.int .u8 (bits .xor .u8 a b)) := by
  show (List.zipWith xorV s.cs p.cs)[k]? = _
  rw [List.getElem?_zipWith, ha, hb]
  rfl
theorem byte_at (s : Sec) (k : Nat) (hk : k < 64) : ∃ b : Int, s.cs[k]? = some (.int .u8 b) := by
  have hk' : k < s.cs.length := by rw [s.len]; exact hk
  obtain ⟨b, hb⟩ := s.byte _ (List.getElem_mem hk')
  exact ⟨b, by rw [List.getElem?_eq_getElem hk', hb]⟩

set_option maxRecDepth 100000 in
set_option maxHeartbeats 400000 in
theorem xor_any (s p : Sec) (w : World) :
    Calls Try.prog 29 #[s.agg, p.agg] w fun e w' => e = .returned (s.xor p).agg ∧ Below w.heap.size w w' := by
  unfold Sec.agg
  go_enter Try.func29, Try.ntmps29
  go_wp2_with fail
  generalize hW : ((w.alloc _).alloc _).alloc _ = W3
  have K0 : Blk W3 w.heap.size 34 s.cs.toArray := by rw [← hW]; exact ((Blk.new w _ _).alloc _).alloc _
  have K1 : Blk W3 (w.heap.size + 1) 34 p.cs.toArray := by
    have := (Blk.new (w.alloc (.cells s.cs.toArray 34)) 34 p.cs.toArray).alloc (.cells Sec.zero.cs.toArray 34)
    rw [World.size_alloc] at this
    rw [← hW]
    exact this
  have K2 : Blk W3 (w.heap.size + 1 + 1) 34 Sec.zero.cs.toArray := by
    have := Blk.new ((w.alloc (.cells s.cs.toArray 34)).alloc (.cells p.cs.toArray 34)) 34 Sec.zero.cs.toArray
    rw [World.size_alloc, World.size_alloc] at this
    rw [← hW]
    exact this
  have hB3 : Below w.heap.size w W3 := by rw [← hW]; exact (((Below.refl _ w).alloc (Nat.le_refl _) _).alloc (by simp) _).alloc (by simp; omega) _
  have hK := hide (And.intro K0 (And.intro K1 (And.intro K2 hB3)))
  clear hW K0 K1 K2 hB3
  go_loopw [5, 6] (fun _ i wr => ∃ k : Nat, k ≤ 64 ∧ i = .int .i64 k ∧ Blk wr w.heap.size 34 (xorTo s p k) ∧ Blk wr (w.heap.size + 1) 34 p.cs.toArray ∧ Blk wr (w.heap.size + 1 + 1) 34 Sec.zero.cs.toArray ∧ Below w.heap.size w wr)
    (fun _ i _ => 64 - (intOf i).toNat)
  case atStart => exact ⟨0, by omega, rfl, by rw [xorTo_zero]; exact hK.out.1, hK.out.2.1, hK.out.2.2.1, hK.out.2.2.2⟩
  case round =>
    obtain ⟨k, hk, rfl, k0, k1, k2, hB⟩ := hrel
    by_cases hlt : k < 64
    · obtain ⟨a, ha⟩ := byte_at s k hlt
      obtain ⟨b, hb⟩ := byte_at p k hlt
      have x0 : wr.cell? ⟨w.heap.size, k, none⟩ = some (.int .u8 a) := by rw [k0.cell, xorTo_get s p k hlt, ha]
      have x1 : wr.cell? ⟨w.heap.size + 1, k, none⟩ = some (.int .u8 b) := by rw [k1.cell, List.getElem?_toArray, hb]
      have f0 := k0.frozen k
      have Hset := hide (k0.set_ k (.int .u8 (bits .xor .u8 a b)))
      have Hx := hide (xorTo_succ s p k hlt _ (xor_get s p k a b ha hb))
      have Hk := hide (And.intro k1 (And.intro k2 hB))
      clear ha hb k0 k1 k2 hB hK
      go_upto_region 4 with (fail)
      refine wp_region_still_tail 8 (by decide +kernel) (by decide +kernel) ?_
      simp only [List.take_succ_cons, List.take_zero, List.drop_succ_cons, List.drop_zero]
      repeat still_step
      refine wpStill_nil ?_
      change wpList _ _ _ _ _ wr.drew
      have y0 : wr.drew.cell? ⟨w.heap.size, k, none⟩ = some (.int .u8 a) := x0
      have g0 : wr.drew.frozen? ⟨w.heap.size, k, none⟩ = false := f0
      go_wp2_with fail
      go_roundw
      case rel =>
        refine ⟨k + 1, by omega, by go_num, ?_, ?_, ?_, ?_⟩
        · rw [← Hx.out]; exact Hset.out.drew
        · exact (Hk.out.1.far (p := ⟨w.heap.size, k, none⟩) (by simp) _).drew
        · exact (Hk.out.2.1.far (p := ⟨w.heap.size, k, none⟩) (by simp; omega) _).drew
        · exact (Hk.out.2.2.setCell (p := ⟨w.heap.size, k, none⟩) (Nat.le_refl _) _).drew
      case measure => simp [intOf]; omega
    · obtain rfl : k = 64 := by omega
      rw [xorTo_all] at k0
      have K0 := hide k0
      have K2 := hide k2
      clear k0 k1 k2 hK
      go_wp2_with (first | (refine wpList_load_mid rfl 34 (.tmp 2) rfl w.heap.size 0 rfl (s.xor p).cs _ (range_blk (s.xor p) K0.out) Try.underlying34 rfl (sizeSec _) ?_) | (refine wpList_store_row rfl 34 (.tmp 4) (.tmp 18) rfl (w.heap.size + 1 + 1) (s.xor p).cs.toArray rfl rfl 34 Sec.zero.cs.toArray K2.out (sizeRow _) (by simp [Sec.len]) (sec_all _) ?_))
      refine bodyPost_ret (v := (s.xor p).agg) ?_ rfl ?_
      · exact results_sec1 (fn := Try.f29) (p := 4) rfl Try.underlying34 sizeS _ (s.xor p) rfl (K2.out.setRow _)
      · exact ⟨rfl, below_setRow hB (by omega) _⟩
end Go.Proofs.Ytdinbhanekpjoaa.ZD
