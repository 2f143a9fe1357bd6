/-
  The document's device: New.
-/
import Derived.Test.YtdinbhanekpjoaaR07l
import Derived.Test.YtdinbhanekpjoaaDM7
namespace Go.Proofs.Ytdinbhanekpjoaa.R7
open Go.RowKit
theorem cells_newZ (w : World) : ∀ j u, [Value.slice none 0 0, .int .i64 0, .int .i64 0, .bool false][j]? = some u → (w.alloc (.cells #[.slice none 0 0, .int .i64 0, .int .i64 0, .bool false] 93)).cell? ((⟨w.heap.size, 0, none⟩ : Addr).add j) = some u := fun j u hu => by
  have := (Blk.new w 93 #[.slice none 0 0, .int .i64 0, .int .i64 0, .bool false]).cell j
  rw [show ((⟨w.heap.size, 0, none⟩ : Addr).add j) = ⟨w.heap.size, j, none⟩ by simp [Addr.add_lit], this]
  simpa using hu
def zeroZ (size : Int) : RZ := ⟨Zn.new size, none, 0⟩

set_option maxRecDepth 100000 in
set_option maxHeartbeats 1000000 in
theorem new_any (zones size op : Int) (w : World) (hz1 : 0 ≤ zones) (hz2 : zones ≤ 512) :
    Calls Try.prog 16 #[.int .i64 zones, .int .i64 size, .int .i64 op] w (Put w (fun _ => False) (Dv.made zones.toNat size op)) := by
  obtain ⟨n, rfl⟩ := Int.eq_ofNat_of_zero_le hz1
  obtain ⟨i0, hi, hq0, hq1, hq2⟩ := info_parts infoZ
  go_enter Try.func16, Try.ntmps16
  go_wp2_with fail
  have k0 := (Blk.new w 31 #[.slice none 0 0, .int .i64 0, .int .i64 0, .int .i64 0, .bool false]).alloc (.cells #[.slice none 0 0, .int .i64 size, .int .i64 op, .int .i64 0, .bool false] 31)
  have k1 := Blk.new (w.alloc (.cells #[.slice none 0 0, .int .i64 0, .int .i64 0, .int .i64 0, .bool false] 31)) 31 #[.slice none 0 0, .int .i64 size, .int .i64 op, .int .i64 0, .bool false]
  have hB : Below w.heap.size w ((w.alloc (.cells #[.slice none 0 0, .int .i64 0, .int .i64 0, .int .i64 0, .bool false] 31)).alloc (.cells #[.slice none 0 0, .int .i64 size, .int .i64 op, .int .i64 0, .bool false] 31)) := ((Below.refl _ w).alloc (Nat.le_refl _) _).alloc (by simp) _
  have hs : ((w.alloc (.cells #[.slice none 0 0, .int .i64 0, .int .i64 0, .int .i64 0, .bool false] 31)).alloc (.cells #[.slice none 0 0, .int .i64 size, .int .i64 op, .int .i64 0, .bool false] 31)).heap.size = w.heap.size + 2 := by simp
  rw [World.size_alloc] at k1
  generalize (w.alloc _).alloc _ = W1 at k0 k1 hB hs ⊢
  have K0 := hide k0
  have K1 := hide k1
  have HB := hide hB
  have Hs := hide hs
  clear k0 k1 hB hs
  go_loopw [8] (fun i wr => ∃ k : Nat, k ≤ n ∧ i = .int .i64 k ∧ ∃ B cc, Blk wr w.heap.size 31 #[.slice none 0 0, .int .i64 0, .int .i64 0, .int .i64 0, .bool false] ∧ Blk wr (w.heap.size + 1) 31 #[.slice B k cc, .int .i64 size, .int .i64 op, .int .i64 0, .bool false] ∧
    wr.ownsRow (w.heap.size + 2) 93 4 (.slice B k cc) k ((List.replicate k (zeroZ size)).flatMap RZ.cells) ∧ Below w.heap.size w wr ∧ w.heap.size + 2 ≤ wr.heap.size) (fun i _ => n - (intOf i).toNat)
  case atStart => exact ⟨0, by omega, rfl, none, 0, K0.out, K1.out, World.ownsRow_nil _ _ _ _, HB.out, by rw [Hs.out]; exact Nat.le_refl _⟩
  case round =>
    obtain ⟨k, hk, rfl, B, cc, k0, k1, hown, hb, hsz⟩ := hrel
    obtain ⟨m0, m1, m2, m3, m4, g0, g1, g2, g3, g4⟩ := k1.five
    by_cases hlt : k < n
    · have Hk := hide (And.intro k0 (And.intro k1 (And.intro hb hsz)))
      have Hown := hide hown
      clear k0 k1 hown hb hsz
      go_wp2_with (at_builtin; refine wpList_append_own_at _ rfl (.tmp 18) (.tmp 20) 29 rfl (w.heap.size + 2) 93 i0 _ 4 48 Try.underlying29 hi hq0 hq1 hq2 rfl (by decide) (.slice B k cc) _ _ ?_ (Hown.out.alloc _) ⟨wr.heap.size, 0, none⟩ 1 1 [Value.slice none 0 0, .int .i64 0, .int .i64 0, .bool false] ?_ (by simp) (cells_newZ _) (by simp [Value.oneCell']) (by unfold maxLen; omega) (by omega) (by have := Hk.out.2.2.2; simp; omega) ?_; exact rfl; exact rfl; intro v1 w1 hown1 hgrow1 hnil1 hat1; obtain ⟨B1, cc1, rfl⟩ := own_form hown1; have Hown1 := hide hown1; have Hgrow1 := hide hgrow1; have hne : ∀ b, b < w.heap.size + 2 → some b ≠ (Value.slice B k cc).ownBlock := (fun b hb e => by have := (Hown.out.lt _ e.symm).1; omega); have KK1 := hide ((Hk.out.2.1.alloc _).grown hgrow1 (hne _ (by omega))); have KK0 := hide ((Hk.out.1.alloc _).grown hgrow1 (hne _ (by omega))); clear hown1 hgrow1 hnil1 hat1 hne; obtain ⟨m0, m1, m2, m3, m4, g0, g1, g2, g3, g4⟩ := KK1.out.five)
      go_roundw
      case rel =>
        have hb1 : Below w.heap.size w w1 := (Hk.out.2.2.1.alloc Hk.out.2.2.1.size _).grown Hgrow1.out (by have := Hk.out.2.2.2; simp; omega) (fun b e => by have := (Hown.out.lt _ e).1; omega)
        refine ⟨k + 1, by omega, by go_num, B1, cc1, KK0.out.far (p := ⟨w.heap.size + 1, 0, none⟩) (by simp) _, ?_, ?_, hb1.setCell (p := ⟨w.heap.size + 1, 0, none⟩) (by simp) _, ?_⟩
        · simpa using KK1.out.set_ 0 (.slice B1 (k + 1) cc1)
        · rw [List.replicate_succ', List.flatMap_append]
          exact own_setCell Hown1.out (fun e => by have := (Hown1.out.lt (w.heap.size + 1) e).1; omega) _
        · have := Hgrow1.out.size
          have := Hk.out.2.2.2
          simp at *
          omega
      case measure => simp [intOf]; omega
    · obtain rfl : k = n := by omega
      have K0 := hide k0
      have Hb := hide hb
      have Hown := hide hown
      have Hsz := hide hsz
      obtain ⟨r0, r1, r2, r3, r4, f0, f1, f2, f3, f4⟩ := k0.five
      clear k0 k1 hb hown hsz
      go_wp2_with fail
      have hf := Mods.set5 (fun b => b = w.heap.size) wr w.heap.size (.slice B k cc) (.int .i64 size) (.int .i64 op) (.int .i64 0) (.bool false) rfl
      have hbf := Hb.out.trans (hf.below (B := w.heap.size) Hb.out.size (fun b e => by omega))
      have hof := own_mods Hown.out hf (fun b e => by have := (Hown.out.lt _ e).1; omega)
      refine bodyPost_ret (v := .agg #[.slice B k cc, .int .i64 size, .int .i64 op, .int .i64 0, .bool false]) ?_ rfl ?_
      · exact results_cell_row (fn := Try.f16) (p := 6) rfl _ _ w.heap.size 31 _ (0, 0) _ rfl (K0.out.set5 _ _ _ _ _) Try.underlying31 rfl sizeD
      · have hl : (Dv.made k size op).zs.length = k := by simp [Dv.made]
        refine ⟨B, cc, List.replicate k (zeroZ size), ?_, ⟨by simp [Dv.made, zeroZ], ?_, ?_, ?_, ?_⟩, hbf⟩
        · rw [Int.toNat_natCast, hl]; rfl
        · rw [Int.toNat_natCast, hl]; exact own_base hof
        · intro e he
          obtain rfl := (List.mem_replicate.1 he).2
          exact World.ownsRow_nil _ _ _ _
        · intro b hb
          rw [Int.toNat_natCast, hl] at hb
          right
          have := (Hown.out.lt _ hb).1
          omega
        · intro e he b hb
          obtain rfl := (List.mem_replicate.1 he).2
          simp [zeroZ, Value.ownBlock] at hb
end Go.Proofs.Ytdinbhanekpjoaa.R7
