/-
  The document's zone (package revetmentref06): Crash, Change.
-/
import Derived.Test.YtahlphclighccaaR06b
namespace Go.Proofs.Ytahlphclighccaa.R06
open Go.RowKit

theorem kept_iff (safe keep len k : Int) (n : Nat) (hn : n = (safe.toNat + min keep.toNat (len.toNat - safe.toNat))) (h0 : 0 ≤ safe) (h1 : safe ≤ len) (hk : 0 ≤ k) (hk2 : k < len) :
    (k < safe ∨ k - safe < keep) ↔ k < n := by omega

set_option maxHeartbeats 2000000 in
theorem crash_any (z : Zn Int) (keep : Int) (A : Option Addr) (c : Nat) (w : World) (G : Nat → Prop) (hz : At w A c z G) (hn : z.L.length < 65536) (hs : z.safe ≤ z.L.length) (hst : z.state ≤ 4) :
    Calls Try.prog 37 #[.agg #[.slice A z.L.length c, .int .i64 z.size, .int .i64 (z.safe : Int), .int .i64 z.state, .bool z.fin], .int .i64 keep] w (Gave0 w G (z.crash keep)) := by
  have hz' := hide hz
  clear hz
  have hN := Zn.left_le keep hs
  go_enter Try.func37, Try.ntmps37
  go_upto_region 1 with (fail)
  go_cut [5] (fun v wx => v = .slice none 0 0 ∧ Blk wx w.heap.size 49 #[.slice A z.L.length c, .int .i64 z.size, .int .i64 (z.safe : Int), .int .i64 z.state, .bool z.fin] ∧
    Blk wx (w.heap.size + 1) 49 #[.slice none 0 0, .int .i64 0, .int .i64 0, .int .i64 0, .bool false] ∧ Below w.heap.size w wx ∧ w.heap.size + 2 ≤ wx.heap.size)
  case first =>
    go_wp2_with fail
    go_meet
    refine ⟨rfl, (Blk.new w _ _).alloc _, ?_, ((Below.refl _ w).alloc (by simp) _).alloc (by simp) _, by simp⟩
    have := Blk.new (w.alloc (.cells #[.slice A z.L.length c, .int .i64 z.size, .int .i64 (z.safe : Int), .int .i64 z.state, .bool z.fin] 49)) 49 #[.slice none 0 0, .int .i64 0, .int .i64 0, .int .i64 0, .bool false]
    rw [World.size_alloc] at this
    exact this
  case rest =>
    obtain ⟨rfl, hb0, hb1, hbel, hsz⟩ := hcut
    go_wp2_with fail
    go_loopw [5, 6] (fun v i wr => ∃ k : Nat, k ≤ z.L.length ∧ i = .int .i64 k ∧ (∃ B n cc, n = min k (z.left keep) ∧ v = .slice B n cc ∧ wr.ownsRow wc.heap.size 3 1 (.slice B n cc) n ((z.L.take n).map (Value.int .i64))) ∧ Below wc.heap.size wc wr) (fun _ i _ => z.L.length - (intOf i).toNat)
    case atStart => exact ⟨0, Nat.zero_le _, rfl, ⟨none, 0, 0, by simp, rfl, by simpa using World.ownsRow_nil _ _ _ _⟩, Below.refl _ _⟩
    case round =>
      obtain ⟨k, hk, rfl, ⟨B, n, cc, hnm, rfl, hown⟩, hbr⟩ := hrel
      have hb0' : Blk wr w.heap.size _ _ := (hbr.block _ (by omega)).trans hb0
      have hb1' : Blk wr (w.heap.size + 1) _ _ := (hbr.block _ (by omega)).trans hb1
      obtain ⟨k0, k1, k2, k3, k4, f0, f1, f2, f3, f4⟩ := hb0'.five
      by_cases hlt : k < z.L.length
      · obtain ⟨g, rfl, ck⟩ : ∃ g, A = some ⟨g, 0, none⟩ ∧ wr.cell? ⟨g, k, none⟩ = some (.int .i64 z.L[k]) := by
          have hown := (hz'.out.below (hbel.trans (hbr.mono hbel.size))).1
          rcases hown.2 with ⟨h, h0⟩ | ⟨g, cap, cur, h, _⟩
          · omega
          · simp only [Value.slice.injEq, true_and] at h
            obtain ⟨rfl, rfl⟩ := h
            refine ⟨g, rfl, ?_⟩
            have := hown.cells (g := g) rfl k (.int .i64 z.L[k]) (by simp [hlt])
            simpa [Addr.add_lit] using this
        have hki := kept_iff z.safe keep z.L.length k (z.left keep) (by simp [Zn.left]) (by omega) (by omega) (by omega) (by omega)
        by_cases hin : k < z.left keep
        · obtain rfl : n = k := by omega
          obtain ⟨i0, hi, hz0, hz1, hz2⟩ := info_parts infoE
          have hor := hki.2 (by omega)
          clear hki hnm
          have fin : ∀ (B1 : Option Addr) (cc1 : Nat) (w1 : World), w1.ownsRow wc.heap.size 3 1 (.slice B1 (n + 1) cc1) (n + 1) ((z.L.take n).map (Value.int .i64) ++ [.int .i64 z.L[n]]) → (wr.alloc (.cells #[.int .i64 z.L[n]] 3)).grownBy w1 (Value.slice B n cc).ownBlock →
              ∃ k : Nat, k ≤ z.L.length ∧ Value.int .i64 ((n : Int) + 1) = .int .i64 k ∧ (∃ B' n' cc', n' = min k (z.left keep) ∧ Value.slice B1 (n + 1) cc1 = .slice B' n' cc' ∧ w1.ownsRow wc.heap.size 3 1 (.slice B' n' cc') n' ((z.L.take n').map (Value.int .i64))) ∧ Below wc.heap.size wc w1 := fun B1 cc1 w1 ho hg => by
            refine ⟨n + 1, by omega, by simp, ⟨B1, n + 1, cc1, by omega, rfl, ?_⟩, (hbr.alloc hbr.size _).grown hg (by have := hbr.size; simp; omega) (fun g e => (hown.lt g e).1)⟩
            rw [List.take_succ_eq_append_getElem hlt, List.map_append]
            exact ho
          have Fin := hide fin
          clear fin
          by_cases hsf : n < z.safe
          · clear hor
            go_wp2_with (at_builtin; refine wpList_append_own_at _ rfl (.tmp 26) (.tmp 32) 39 rfl wc.heap.size 3 i0 _ 1 8 Try.underlying39 hi hz0 hz1 hz2 rfl (by decide) (.slice B n cc) _ _ rfl (hown.alloc _) ⟨wr.heap.size, 0, none⟩ 1 1 [.int .i64 z.L[n]] rfl rfl (cell_one_new _ _ _) (by simp [Value.oneCell']) (by unfold maxLen; omega) (by omega) (by have := hbr.size; simp; omega) ?_; intro v1 w1 hown1 hgrow1 hnil1 hat1; obtain ⟨B1, cc1, rfl⟩ := own_form hown1)
            go_roundw
            case rel => exact Fin.out _ _ _ hown1 hgrow1
            case measure => simp [intOf]; omega
          · have hkeep : (n : Int) - z.safe < keep := by omega
            clear hor
            go_wp2_with (at_builtin; refine wpList_append_own_at _ rfl (.tmp 26) (.tmp 32) 39 rfl wc.heap.size 3 i0 _ 1 8 Try.underlying39 hi hz0 hz1 hz2 rfl (by decide) (.slice B n cc) _ _ rfl (hown.alloc _) ⟨wr.heap.size, 0, none⟩ 1 1 [.int .i64 z.L[n]] rfl rfl (cell_one_new _ _ _) (by simp [Value.oneCell']) (by unfold maxLen; omega) (by omega) (by have := hbr.size; simp; omega) ?_; intro v1 w1 hown1 hgrow1 hnil1 hat1; obtain ⟨B1, cc1, rfl⟩ := own_form hown1)
            go_roundw
            case rel => exact Fin.out _ _ _ hown1 hgrow1
            case measure => simp [intOf]; omega
        · have hnor := mt hki.1 (by omega)
          have h1 : ¬ k < z.safe := by omega
          have h2 : ¬ (k : Int) - z.safe < keep := by omega
          clear hki hnor
          go_wp2_with fail
          go_roundw
          case rel => exact ⟨k + 1, by omega, by simp, ⟨B, n, cc, by omega, rfl, hown⟩, hbr⟩
          case measure => simp [intOf]; omega
      · obtain rfl : k = z.L.length := by omega
        obtain rfl : n = z.left keep := by omega
        clear hnm hlt
        have hbr' : Below w.heap.size w wr := hbel.trans (hbr.mono hbel.size)
        have hne0 : (Value.slice B (z.left keep) cc).ownBlock ≠ some w.heap.size := fun e => by have := (hown.lt _ e).1; omega
        have hne1 : (Value.slice B (z.left keep) cc).ownBlock ≠ some (w.heap.size + 1) := fun e => by have := (hown.lt _ e).1; omega
        have hge : ∀ g, (Value.slice B (z.left keep) cc).ownBlock = some g → w.heap.size ≤ g := fun g e => by have := (hown.lt _ e).1; omega
        have hl : (z.L.take (z.left keep)).length = z.left keep := by simp; omega
        have hown0 := own_base hown
        have Fin : Hid (∀ (st : Int) (fb : Bool) (W : World), fb = z.fin → (Below w.heap.size w wr → Below w.heap.size w W) → (wr.ownsRow 0 3 1 (.slice B (z.left keep) cc) (z.left keep) ((z.L.take (z.left keep)).map (Value.int .i64)) → W.ownsRow 0 3 1 (.slice B (z.left keep) cc) (z.left keep) ((z.L.take (z.left keep)).map (Value.int .i64))) →
            z.crash keep = { z with L := z.L.take (z.left keep), safe := z.left keep, state := st } → Gave0 w G (z.crash keep) (.returned (.agg #[.slice B (z.left keep) cc, .int .i64 z.size, .int .i64 (z.left keep : Nat), .int .i64 st, .bool fb])) W) := hide fun st fb W hfb hB hO e => by
          subst hfb
          rw [e]
          refine ⟨B, cc, by simp only [hl], ⟨?_, ?_⟩, hB hbr'⟩
          · simp only [hl]; exact hO hown0
          · simp only [hl]; exact fun g e => .inr (hge g e)
        obtain ⟨m0, m1, m2, m3, m4, g0, g1, g2, g3, g4⟩ := hb1'.five
        clear hb0 hb1 hbel hl hge hbr hown
        by_cases h3 : 3 ≤ z.state
        · have hc := hide (Zn.crash_failed keep h3)
          clear hb0' hb1' hbr' hown0
          go_wp2_with fail
          refine bodyPost_ret (v := .agg #[.slice B (z.left keep) cc, .int .i64 z.size, .int .i64 (z.left keep : Nat), .int .i64 z.state, .bool z.fin]) (by simp [results, Try.results37, go_sem, m0, m1, m2, m3, m4]) rfl ?_
          refine Fin.out _ _ _ rfl (fun hB => ?_) (fun hO => ?_) hc.out
          · repeat (first | with_reducible exact hB | refine Below.setCell ?_ (by simp) _)
          · repeat (first | with_reducible exact hO | refine own_setCell ?_ hne0 _ | refine own_setCell ?_ hne1 _)
        · have h3' : ¬ 2 < z.state := by omega
          by_cases h0 : z.left keep = 0
          · have e0 : (((z.left keep : Nat) : Int) == 0) = true := beq_iff_eq.2 (by omega)
            have e0' : (z.left keep == 0) = true := beq_iff_eq.2 h0
            have H0 := hide h0
            clear h0
            go_upto_region 14 with (fail)
            obtain ⟨W3, hW3⟩ : ∃ W3 : World, W3 = ((((wr.setCell ⟨w.heap.size, 0, none⟩ (.slice B (z.left keep) cc)).setCell ⟨w.heap.size, 2, none⟩ (.int .i64 (z.left keep : Nat))).setCell ⟨w.heap.size, 3, none⟩ (.int .i64 1)).setCell ⟨w.heap.size, 3, none⟩ (.int .i64 0)) := ⟨_, rfl⟩
            have hc0 : Blk W3 w.heap.size 49 #[.slice B (z.left keep) cc, .int .i64 z.size, .int .i64 (z.left keep : Nat), .int .i64 0, .bool z.fin] := by rw [hW3]; exact ((((((((hb0').set_ 0 _)).set_ 2 _)).set_ 3 _)).set_ 3 _)
            have hc1 : Blk W3 (w.heap.size + 1) 49 #[.slice none 0 0, .int .i64 0, .int .i64 0, .int .i64 0, .bool false] := by rw [hW3]; exact ((((((((hb1').far (p := ⟨w.heap.size, 0, none⟩) (by simp) _)).far (p := ⟨w.heap.size, 2, none⟩) (by simp) _)).far (p := ⟨w.heap.size, 3, none⟩) (by simp) _)).far (p := ⟨w.heap.size, 3, none⟩) (by simp) _)
            have hbr3 : Below w.heap.size w W3 := by rw [hW3]; exact ((((((((hbr').setCell (p := ⟨w.heap.size, 0, none⟩) (Nat.le_refl _) _)).setCell (p := ⟨w.heap.size, 2, none⟩) (Nat.le_refl _) _)).setCell (p := ⟨w.heap.size, 3, none⟩) (Nat.le_refl _) _)).setCell (p := ⟨w.heap.size, 3, none⟩) (Nat.le_refl _) _)
            have hown3 : W3.ownsRow 0 3 1 (.slice B (z.left keep) cc) (z.left keep) ((z.L.take (z.left keep)).map (Value.int .i64)) := by rw [hW3]; exact (own_setCell ((own_setCell ((own_setCell ((own_setCell (hown0) hne0 _)) hne0 _)) hne0 _)) hne0 _)
            rw [← hW3]
            clear hW3 k0 k1 k2 k3 k4 f0 f1 f2 f3 f4 m0 m1 m2 m3 m4 g0 g1 g2 g3 g4 hb0' hb1' hbr' hown0
            obtain ⟨k0, k1, k2, k3, k4, f0, f1, f2, f3, f4⟩ := hc0.five
            obtain ⟨m0, m1, m2, m3, m4, g0, g1, g2, g3, g4⟩ := hc1.five
            clear hc0 hc1
            by_cases hf : z.fin = true
            · have hc := hide (Zn.crash_full keep h3 (.inl hf))
              rw [hf] at k4
              have Hf := hide hf
              clear hf h3 e0 e0'
              go_wp2_with fail
              refine bodyPost_ret (v := .agg #[.slice B (z.left keep) cc, .int .i64 z.size, .int .i64 (z.left keep : Nat), .int .i64 2, .bool true]) (by simp [results, Try.results37, go_sem, m0, m1, m2, m3, m4]) rfl ?_
              refine Fin.out _ _ _ Hf.out.symm (fun hB => ?_) (fun hO => ?_) hc.out
              · repeat (first | with_reducible exact hbr3 | refine Below.setCell ?_ (by simp) _)
              · repeat (first | with_reducible exact hown3 | refine own_setCell ?_ hne0 _ | refine own_setCell ?_ hne1 _)
            · rw [Bool.not_eq_true] at hf
              by_cases hz : ((z.left keep : Nat) : Int) = z.size
              · have hc := hide (Zn.crash_full keep h3 (.inr hz))
                have ez : (((z.left keep : Nat) : Int) == z.size) = true := beq_iff_eq.2 hz
                rw [hf] at k4
                have Hf := hide hf
                clear hf h3 e0 e0' hz
                go_wp2_with fail
                refine bodyPost_ret (v := .agg #[.slice B (z.left keep) cc, .int .i64 z.size, .int .i64 (z.left keep : Nat), .int .i64 2, .bool false]) (by simp [results, Try.results37, go_sem, m0, m1, m2, m3, m4]) rfl ?_
                refine Fin.out _ _ _ Hf.out.symm (fun hB => ?_) (fun hO => ?_) hc.out
                · repeat (first | with_reducible exact hbr3 | refine Below.setCell ?_ (by simp) _)
                · repeat (first | with_reducible exact hown3 | refine own_setCell ?_ hne0 _ | refine own_setCell ?_ hne1 _)
              · have ez : (((z.left keep : Nat) : Int) == z.size) = false := beq_eq_false_iff_ne.2 hz
                have hor : ¬ (z.fin = true ∨ ((z.left keep : Nat) : Int) = z.size) := fun h => h.elim (by simp [hf]) hz
                have hc := hide (Zn.crash_empty keep h3 hor H0.out)
                rw [hf] at k4
                have Hf := hide hf
                clear hf h3 e0 e0' hz hor
                go_wp2_with fail
                refine bodyPost_ret (v := .agg #[.slice B (z.left keep) cc, .int .i64 z.size, .int .i64 (z.left keep : Nat), .int .i64 0, .bool false]) (by simp [results, Try.results37, go_sem, m0, m1, m2, m3, m4]) rfl ?_
                refine Fin.out _ _ _ Hf.out.symm (fun hB => ?_) (fun hO => ?_) hc.out
                · repeat (first | with_reducible exact hbr3 | refine Below.setCell ?_ (by simp) _)
                · repeat (first | with_reducible exact hown3 | refine own_setCell ?_ hne0 _ | refine own_setCell ?_ hne1 _)
          · have e0 : (((z.left keep : Nat) : Int) == 0) = false := beq_eq_false_iff_ne.2 (by omega)
            have e0' : (z.left keep == 0) = false := beq_eq_false_iff_ne.2 h0
            have H0 := hide h0
            clear h0
            go_upto_region 14 with (fail)
            obtain ⟨W3, hW3⟩ : ∃ W3 : World, W3 = (((wr.setCell ⟨w.heap.size, 0, none⟩ (.slice B (z.left keep) cc)).setCell ⟨w.heap.size, 2, none⟩ (.int .i64 (z.left keep : Nat))).setCell ⟨w.heap.size, 3, none⟩ (.int .i64 1)) := ⟨_, rfl⟩
            have hc0 : Blk W3 w.heap.size 49 #[.slice B (z.left keep) cc, .int .i64 z.size, .int .i64 (z.left keep : Nat), .int .i64 1, .bool z.fin] := by rw [hW3]; exact ((((((hb0').set_ 0 _)).set_ 2 _)).set_ 3 _)
            have hc1 : Blk W3 (w.heap.size + 1) 49 #[.slice none 0 0, .int .i64 0, .int .i64 0, .int .i64 0, .bool false] := by rw [hW3]; exact ((((((hb1').far (p := ⟨w.heap.size, 0, none⟩) (by simp) _)).far (p := ⟨w.heap.size, 2, none⟩) (by simp) _)).far (p := ⟨w.heap.size, 3, none⟩) (by simp) _)
            have hbr3 : Below w.heap.size w W3 := by rw [hW3]; exact ((((((hbr').setCell (p := ⟨w.heap.size, 0, none⟩) (Nat.le_refl _) _)).setCell (p := ⟨w.heap.size, 2, none⟩) (Nat.le_refl _) _)).setCell (p := ⟨w.heap.size, 3, none⟩) (Nat.le_refl _) _)
            have hown3 : W3.ownsRow 0 3 1 (.slice B (z.left keep) cc) (z.left keep) ((z.L.take (z.left keep)).map (Value.int .i64)) := by rw [hW3]; exact (own_setCell ((own_setCell ((own_setCell (hown0) hne0 _)) hne0 _)) hne0 _)
            rw [← hW3]
            clear hW3 k0 k1 k2 k3 k4 f0 f1 f2 f3 f4 m0 m1 m2 m3 m4 g0 g1 g2 g3 g4 hb0' hb1' hbr' hown0
            obtain ⟨k0, k1, k2, k3, k4, f0, f1, f2, f3, f4⟩ := hc0.five
            obtain ⟨m0, m1, m2, m3, m4, g0, g1, g2, g3, g4⟩ := hc1.five
            clear hc0 hc1
            by_cases hf : z.fin = true
            · have hc := hide (Zn.crash_full keep h3 (.inl hf))
              rw [hf] at k4
              have Hf := hide hf
              clear hf h3 e0 e0'
              go_wp2_with fail
              refine bodyPost_ret (v := .agg #[.slice B (z.left keep) cc, .int .i64 z.size, .int .i64 (z.left keep : Nat), .int .i64 2, .bool true]) (by simp [results, Try.results37, go_sem, m0, m1, m2, m3, m4]) rfl ?_
              refine Fin.out _ _ _ Hf.out.symm (fun hB => ?_) (fun hO => ?_) hc.out
              · repeat (first | with_reducible exact hbr3 | refine Below.setCell ?_ (by simp) _)
              · repeat (first | with_reducible exact hown3 | refine own_setCell ?_ hne0 _ | refine own_setCell ?_ hne1 _)
            · rw [Bool.not_eq_true] at hf
              by_cases hz : ((z.left keep : Nat) : Int) = z.size
              · have hc := hide (Zn.crash_full keep h3 (.inr hz))
                have ez : (((z.left keep : Nat) : Int) == z.size) = true := beq_iff_eq.2 hz
                rw [hf] at k4
                have Hf := hide hf
                clear hf h3 e0 e0' hz
                go_wp2_with fail
                refine bodyPost_ret (v := .agg #[.slice B (z.left keep) cc, .int .i64 z.size, .int .i64 (z.left keep : Nat), .int .i64 2, .bool false]) (by simp [results, Try.results37, go_sem, m0, m1, m2, m3, m4]) rfl ?_
                refine Fin.out _ _ _ Hf.out.symm (fun hB => ?_) (fun hO => ?_) hc.out
                · repeat (first | with_reducible exact hbr3 | refine Below.setCell ?_ (by simp) _)
                · repeat (first | with_reducible exact hown3 | refine own_setCell ?_ hne0 _ | refine own_setCell ?_ hne1 _)
              · have ez : (((z.left keep : Nat) : Int) == z.size) = false := beq_eq_false_iff_ne.2 hz
                have hor : ¬ (z.fin = true ∨ ((z.left keep : Nat) : Int) = z.size) := fun h => h.elim (by simp [hf]) hz
                have hc := hide (Zn.crash_open keep h3 hor H0.out)
                rw [hf] at k4
                have Hf := hide hf
                clear hf h3 e0 e0' hz hor
                go_wp2_with fail
                refine bodyPost_ret (v := .agg #[.slice B (z.left keep) cc, .int .i64 z.size, .int .i64 (z.left keep : Nat), .int .i64 1, .bool false]) (by simp [results, Try.results37, go_sem, m0, m1, m2, m3, m4]) rfl ?_
                refine Fin.out _ _ _ Hf.out.symm (fun hB => ?_) (fun hO => ?_) hc.out
                · repeat (first | with_reducible exact hbr3 | refine Below.setCell ?_ (by simp) _)
                · repeat (first | with_reducible exact hown3 | refine own_setCell ?_ hne0 _ | refine own_setCell ?_ hne1 _)
end Go.Proofs.Ytahlphclighccaa.R06
