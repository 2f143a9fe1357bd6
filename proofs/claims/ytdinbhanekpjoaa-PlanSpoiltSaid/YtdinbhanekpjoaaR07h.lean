/-
  The document's zone of sectors: crash, the loop.
-/
import Derived.Test.YtdinbhanekpjoaaR07g
import Derived.Test.YtdinbhanekpjoaaZDA
namespace Go.Proofs.Ytdinbhanekpjoaa.R7
open Go.RowKit
theorem kept_iff (safe keep len k : Int) (n : Nat) (hn : n = (safe.toNat + min keep.toNat (len.toNat - safe.toNat))) (h0 : 0 ≤ safe) (h1 : safe ≤ len) (hk : 0 ≤ k) (hk2 : k < len) :
    (k < safe ∨ k - safe < keep) ↔ k < n := by omega
theorem infoA : (Try.prog.info? 33).map (fun i => (i.zero, i.size, i.bytes)) = some (some Sec.zero.agg, 64, 64) := by kernel_rfl
theorem sizeA : (Try.prog.info? 33).map (·.size) = some 64 := by kernel_rfl
theorem sizeAx (x : Sec) : (Try.prog.info? 33).map (·.size) = some x.cs.length := by rw [x.len]; exact sizeA
set_option maxRecDepth 100000 in
theorem run_build1 (x : Sec) (w : World) : (Instr.buildSlice 91 1 #[(0, .agg x.cs.toArray)]).run Try.prog w = .ok (.slice (some ⟨w.heap.size, 0, none⟩) 1 1) (w.alloc (.cells x.cs.toArray 33)) := by
  have hl := x.len
  go_simp
  rw [ZD.fold_fill _ _ (by rw [x.len]; rfl)]
theorem wp_build1 {o : Oper} {a : Act} {w : World} {K : Act → World → Prop} {Q : Exit → Act → World → Prop} (x : Sec) (p : Operand) (ho : o.op = .buildSlice 91 1 #[(0, p)]) (hp : a.eval p = .agg x.cs.toArray)
    (h : K (a.put o.dst (.slice (some ⟨w.heap.size, 0, none⟩) 1 1)) (w.alloc (.cells x.cs.toArray 33))) : o.wp Try.prog a w K Q := by
  unfold Oper.wp execOp
  simp only [ho, List.map_toArray, List.map_cons, List.map_nil, hp, Sem.run_bind, run_build1 x w, Result.andThen_ok]
  exact h
theorem wpList_build1 {ops : Array Oper} {rest : List Oper} {o : Oper} {a : Act} {w : World} {Q : Exit → Act → World → Prop} (hgd : o.guard = none) (x : Sec) (p : Operand) (ho : o.op = .buildSlice 91 1 #[(0, p)]) (hp : a.eval p = .agg x.cs.toArray)
    (h : wpList Try.prog ops Q rest (a.put o.dst (.slice (some ⟨w.heap.size, 0, none⟩) 1 1)) (w.alloc (.cells x.cs.toArray 33))) : wpList Try.prog ops Q (o :: rest) a w :=
  wpList_plain hgd fun _ hK => wp_build1 x p ho hp (hK _ _ h)
theorem cells_new (x : Sec) (w : World) (t : TypeId) : ∀ j u, x.cs[j]? = some u → (w.alloc (.cells x.cs.toArray t)).cell? ((⟨w.heap.size, 0, none⟩ : Addr).add j) = some u := fun j u hu => by
  have := (Blk.new w t x.cs.toArray).cell j
  rw [show ((⟨w.heap.size, 0, none⟩ : Addr).add j) = ⟨w.heap.size, j, none⟩ by simp [Addr.add_lit], this]
  simpa using hu
/-- What a method hands back that answers a zone. -/
def GaveZ (w : World) (z' : Zn Sec) (e : Ending) (w' : World) : Prop :=
  ∃ B cc, e = .returned (.agg #[.slice B z'.L.length cc, .int .i64 (z'.safe : Int), .int .i64 z'.state, .bool z'.fin]) ∧ w'.ownsRow 0 33 64 (.slice B z'.L.length cc) z'.L.length (z'.L.flatMap Sec.cs) ∧
    (∀ g, (Value.slice B z'.L.length cc).ownBlock = some g → w.heap.size ≤ g) ∧ Below w.heap.size w w'

set_option maxRecDepth 100000 in
set_option maxHeartbeats 2000000 in
theorem crash_any (z : Zn Sec) (keep : Int) (A : Option Addr) (c : Nat) (w : World) (hz : w.ownsRow 0 33 64 (.slice A z.L.length c) z.L.length (z.L.flatMap Sec.cs)) (hn : z.L.length < 65536) (hs : z.safe ≤ z.L.length) (hst : z.state ≤ 4) :
    Calls Try.prog 88 #[.agg #[.slice A z.L.length c, .int .i64 (z.safe : Int), .int .i64 z.state, .bool z.fin], .int .i64 keep, .int .i64 z.size] w (GaveZ w (z.crash keep)) := by
  have hz' := hide hz
  clear hz
  have hN := Zn.left_le keep hs
  go_enter Try.func88, Try.ntmps88
  go_upto_region 1 with (fail)
  go_cut [7] (fun v wx => v = .slice none 0 0 ∧ Blk wx w.heap.size 93 #[.slice A z.L.length c, .int .i64 (z.safe : Int), .int .i64 z.state, .bool z.fin] ∧
    Blk wx (w.heap.size + 1) 93 #[.slice none 0 0, .int .i64 0, .int .i64 0, .bool false] ∧ Below w.heap.size w wx ∧ w.heap.size + 2 ≤ wx.heap.size)
  case first =>
    go_wp2_with fail
    go_meet
    refine ⟨rfl, (Blk.new w _ _).alloc _, ?_, ((Below.refl _ w).alloc (by simp) _).alloc (by simp) _, by simp⟩
    have := Blk.new (w.alloc (.cells #[.slice A z.L.length c, .int .i64 (z.safe : Int), .int .i64 z.state, .bool z.fin] 93)) 93 #[.slice none 0 0, .int .i64 0, .int .i64 0, .bool false]
    rw [World.size_alloc] at this
    exact this
  case rest =>
    obtain ⟨rfl, hb0, hb1, hbel, hsz⟩ := hcut
    go_wp2_with fail
    go_loopw [7, 8] (fun v i wr => ∃ k : Nat, k ≤ z.L.length ∧ i = .int .i64 k ∧ (∃ B n cc, n = min k (z.left keep) ∧ v = .slice B n cc ∧ wr.ownsRow wc.heap.size 33 64 (.slice B n cc) n ((z.L.take n).flatMap Sec.cs)) ∧ Below wc.heap.size wc wr) (fun _ i _ => z.L.length - (intOf i).toNat)
    case atStart => exact ⟨0, Nat.zero_le _, rfl, ⟨none, 0, 0, by simp, rfl, by simpa using World.ownsRow_nil _ _ _ _⟩, Below.refl _ _⟩
    case round =>
      obtain ⟨k, hk, rfl, ⟨B, n, cc, hnm, rfl, hown⟩, hbr⟩ := hrel
      have hb0' : Blk wr w.heap.size _ _ := (hbr.block _ (by omega)).trans hb0
      have hb1' : Blk wr (w.heap.size + 1) _ _ := (hbr.block _ (by omega)).trans hb1
      obtain ⟨k0, k1, k2, k3, f0, f1, f2, f3⟩ := hb0'.four
      by_cases hlt : k < z.L.length
      · obtain ⟨g, rfl, ck, hgl⟩ : ∃ g, A = some ⟨g, 0, none⟩ ∧ wr.rangeAt g (k * 64) z.L[k].cs ∧ z.L.length ≤ c := by
          have hown := (hz'.out.mods' (hbel.trans (hbr.mono hbel.size)))
          rcases hown.2 with ⟨h, h0⟩ | ⟨g, cap, cur, h, _, _, hcap, _⟩
          · omega
          · simp only [Value.slice.injEq, true_and] at h
            obtain ⟨rfl, rfl⟩ := h
            refine ⟨g, rfl, fun j v hv => ?_, hcap⟩
            have hj : j < 64 := by have := (List.getElem?_eq_some_iff.1 hv).1; rw [Sec.len] at this; exact this
            have := hown.cells (g := g) rfl (k * 64 + j) v (by rw [flat_get _ k hlt j hj]; exact hv)
            simpa [Addr.add_lit] using this
        have hki := kept_iff z.safe keep z.L.length k (z.left keep) (by simp [Zn.left]) (by omega) (by omega) (by omega) (by omega)
        have Ck := hide ck
        clear ck
        by_cases hin : k < z.left keep
        · obtain rfl : n = k := by omega
          obtain ⟨i0, hi, hz0, hz1, hz2⟩ := info_parts infoA
          have hor := hki.2 (by omega)
          clear hki hnm
          have fin : ∀ (B1 : Option Addr) (cc1 : Nat) (w1 : World), w1.ownsRow wc.heap.size 33 64 (.slice B1 (n + 1) cc1) (n + 1) ((z.L.take n).flatMap Sec.cs ++ z.L[n].cs) → (wr.alloc (.cells z.L[n].cs.toArray 33)).grownBy w1 (Value.slice B n cc).ownBlock →
              ∃ k : Nat, k ≤ z.L.length ∧ Value.int .i64 ((n : Int) + 1) = .int .i64 k ∧ (∃ B' n' cc', n' = min k (z.left keep) ∧ Value.slice B1 (n + 1) cc1 = .slice B' n' cc' ∧ w1.ownsRow wc.heap.size 33 64 (.slice B' n' cc') n' ((z.L.take n').flatMap Sec.cs)) ∧ Below wc.heap.size wc w1 := fun B1 cc1 w1 ho hg => by
            refine ⟨n + 1, by omega, by simp, ⟨B1, n + 1, cc1, by omega, rfl, ?_⟩, (hbr.alloc hbr.size _).grown hg (by have := hbr.size; simp; omega) (fun g e => (hown.lt g e).1)⟩
            rw [List.take_succ_eq_append_getElem hlt, flat_snoc]
            exact ho
          have Fin := hide fin
          clear fin
          by_cases hsf : n < z.safe
          · clear hor
            go_wp2_with (first | (refine wpList_load_mid rfl 33 (.tmp 32) rfl g (n * 64) rfl z.L[n].cs _ Ck.out Try.underlying33 rfl (sizeAx _) ?_) | (refine wpList_build1 rfl z.L[n] (.tmp 33) rfl rfl ?_) | (at_builtin; refine wpList_append_own_at _ rfl (.tmp 28) (.tmp 34) 91 rfl wc.heap.size 33 i0 _ 64 64 Try.underlying91 hi hz0 hz1 hz2 rfl (by decide) (.slice B n cc) _ _ rfl (hown.alloc _) ⟨wr.heap.size, 0, none⟩ 1 1 z.L[n].cs rfl (by rw [Sec.len]) (cells_new _ _ _) z.L[n].one (by unfold maxLen; omega) (by omega) (by have := hbr.size; simp; omega) ?_; intro v1 w1 hown1 hgrow1 hnil1 hat1; obtain ⟨B1, cc1, rfl⟩ := own_form hown1))
            go_roundw
            case rel => exact Fin.out _ _ _ hown1 hgrow1
            case measure => simp [intOf]; omega
          · have hkeep : (n : Int) - z.safe < keep := by omega
            clear hor
            go_wp2_with (first | (refine wpList_load_mid rfl 33 (.tmp 32) rfl g (n * 64) rfl z.L[n].cs _ Ck.out Try.underlying33 rfl (sizeAx _) ?_) | (refine wpList_build1 rfl z.L[n] (.tmp 33) rfl rfl ?_) | (at_builtin; refine wpList_append_own_at _ rfl (.tmp 28) (.tmp 34) 91 rfl wc.heap.size 33 i0 _ 64 64 Try.underlying91 hi hz0 hz1 hz2 rfl (by decide) (.slice B n cc) _ _ rfl (hown.alloc _) ⟨wr.heap.size, 0, none⟩ 1 1 z.L[n].cs rfl (by rw [Sec.len]) (cells_new _ _ _) z.L[n].one (by unfold maxLen; omega) (by omega) (by have := hbr.size; simp; omega) ?_; intro v1 w1 hown1 hgrow1 hnil1 hat1; obtain ⟨B1, cc1, rfl⟩ := own_form hown1))
            go_roundw
            case rel => exact Fin.out _ _ _ hown1 hgrow1
            case measure => simp [intOf]; omega
        · have hnor := mt hki.1 (by omega)
          have h1 : ¬ k < z.safe := by omega
          have h2 : ¬ (k : Int) - z.safe < keep := by omega
          clear hki hnor
          go_wp2_with fail
          go_roundw
          case rel => exact ⟨k + 1, by omega, by simp, ⟨B, n, cc, by omega, rfl, hown⟩, hbr⟩
          case measure => simp [intOf]; omega
      · obtain rfl : k = z.L.length := by omega
        obtain rfl : n = z.left keep := by omega
        clear hnm hlt
        have hbr' : Below w.heap.size w wr := hbel.trans (hbr.mono hbel.size)
        have hne0 : (Value.slice B (z.left keep) cc).ownBlock ≠ some w.heap.size := fun e => by have := (hown.lt _ e).1; omega
        have hne1 : (Value.slice B (z.left keep) cc).ownBlock ≠ some (w.heap.size + 1) := fun e => by have := (hown.lt _ e).1; omega
        have hge : ∀ g, (Value.slice B (z.left keep) cc).ownBlock = some g → w.heap.size ≤ g := fun g e => by have := (hown.lt _ e).1; omega
        have hl : (z.L.take (z.left keep)).length = z.left keep := by simp; omega
        have hown0 := own_base hown
        have Fin : Hid (∀ (st : Int) (fb : Bool) (W : World), fb = z.fin → (Below w.heap.size w wr → Below w.heap.size w W) → (wr.ownsRow 0 33 64 (.slice B (z.left keep) cc) (z.left keep) ((z.L.take (z.left keep)).flatMap Sec.cs) → W.ownsRow 0 33 64 (.slice B (z.left keep) cc) (z.left keep) ((z.L.take (z.left keep)).flatMap Sec.cs)) →
            z.crash keep = { z with L := z.L.take (z.left keep), safe := z.left keep, state := st } → GaveZ w (z.crash keep) (.returned (.agg #[(.slice B (z.left keep) cc), .int .i64 (z.left keep : Nat), .int .i64 st, .bool fb])) W) := hide fun st fb W hfb hB hO e => by
          subst hfb
          rw [e]
          refine ⟨B, cc, by simp only [hl], ?_, ?_, hB hbr'⟩
          · simp only [hl]; exact hO hown0
          · simp only [hl]; exact hge
        obtain ⟨m0, m1, m2, m3, g0, g1, g2, g3⟩ := hb1'.four
        clear hb0 hb1 hbel hl hge hbr hown
        by_cases h3 : 3 ≤ z.state
        · have hc := hide (Zn.crash_failed keep h3)
          clear hb0' hb1' hbr' hown0
          go_wp2_with fail
          refine bodyPost_ret (v := .agg #[(.slice B (z.left keep) cc), .int .i64 (z.left keep : Nat), .int .i64 z.state, .bool z.fin]) (by simp [results, Try.results88, go_sem, m0, m1, m2, m3]) rfl ?_
          refine Fin.out _ _ _ rfl (fun hB => ?_) (fun hO => ?_) hc.out
          · repeat (first | with_reducible exact hB | refine Below.setCell ?_ (by simp) _)
          · repeat (first | with_reducible exact hO | refine own_setCell ?_ hne0 _ | refine own_setCell ?_ hne1 _)
        · have h3' : ¬ 2 < z.state := by omega
          by_cases h0 : z.left keep = 0
          · have e0 : (((z.left keep : Nat) : Int) == 0) = true := beq_iff_eq.2 (by omega)
            have e0' : (z.left keep == 0) = true := beq_iff_eq.2 h0
            have H0 := hide h0
            clear h0
            go_upto_region 14 with (fail)
            obtain ⟨W3, hW3⟩ : ∃ W3 : World, W3 = ((((wr.setCell ⟨w.heap.size, 0, none⟩ (.slice B (z.left keep) cc)).setCell ⟨w.heap.size, 1, none⟩ (.int .i64 (z.left keep : Nat))).setCell ⟨w.heap.size, 2, none⟩ (.int .i64 1)).setCell ⟨w.heap.size, 2, none⟩ (.int .i64 0)) := ⟨_, rfl⟩
            have hc0 : Blk W3 w.heap.size 93 #[(.slice B (z.left keep) cc), .int .i64 (z.left keep : Nat), .int .i64 0, .bool z.fin] := by rw [hW3]; exact ((((hb0'.set_ 0 _)).set_ 1 _).set_ 2 _).set_ 2 _
            have hc1 : Blk W3 (w.heap.size + 1) 93 #[.slice none 0 0, .int .i64 0, .int .i64 0, .bool false] := by rw [hW3]; exact ((((hb1').far (p := ⟨w.heap.size, 0, none⟩) (by simp) _).far (p := ⟨w.heap.size, 1, none⟩) (by simp) _).far (p := ⟨w.heap.size, 2, none⟩) (by simp) _).far (p := ⟨w.heap.size, 2, none⟩) (by simp) _
            have hbr3 : Below w.heap.size w W3 := by rw [hW3]; exact ((((hbr').setCell (p := ⟨w.heap.size, 0, none⟩) (Nat.le_refl _) _).setCell (p := ⟨w.heap.size, 1, none⟩) (Nat.le_refl _) _).setCell (p := ⟨w.heap.size, 2, none⟩) (Nat.le_refl _) _).setCell (p := ⟨w.heap.size, 2, none⟩) (Nat.le_refl _) _
            have hown3 : W3.ownsRow 0 33 64 (.slice B (z.left keep) cc) (z.left keep) ((z.L.take (z.left keep)).flatMap Sec.cs) := by rw [hW3]; exact own_setCell (own_setCell (own_setCell (own_setCell (hown0) hne0 _) hne0 _) hne0 _) hne0 _
            rw [← hW3]
            clear hW3 k0 k1 k2 k3 f0 f1 f2 f3 m0 m1 m2 m3 g0 g1 g2 g3 hb0' hb1' hbr' hown0
            obtain ⟨k0, k1, k2, k3, f0, f1, f2, f3⟩ := hc0.four
            obtain ⟨m0, m1, m2, m3, g0, g1, g2, g3⟩ := hc1.four
            clear hc0 hc1
            by_cases hf : z.fin = true
            · have hc := hide (Zn.crash_full keep h3 (.inl hf))
              rw [hf] at k3
              have Hf := hide hf
              clear hf h3 e0 e0'
              go_wp2_with fail
              refine bodyPost_ret (v := .agg #[(.slice B (z.left keep) cc), .int .i64 (z.left keep : Nat), .int .i64 2, .bool true]) (by simp [results, Try.results88, go_sem, m0, m1, m2, m3]) rfl ?_
              refine Fin.out _ _ _ Hf.out.symm (fun hB => ?_) (fun hO => ?_) hc.out
              · repeat (first | with_reducible exact hbr3 | refine Below.setCell ?_ (by simp) _)
              · repeat (first | with_reducible exact hown3 | refine own_setCell ?_ hne0 _ | refine own_setCell ?_ hne1 _)
            · rw [Bool.not_eq_true] at hf
              by_cases hz : ((z.left keep : Nat) : Int) = z.size
              · have hc := hide (Zn.crash_full keep h3 (.inr hz))
                have ez : (((z.left keep : Nat) : Int) == z.size) = true := beq_iff_eq.2 hz
                rw [hf] at k3
                have Hf := hide hf
                clear hf h3 e0 e0' hz
                go_wp2_with fail
                refine bodyPost_ret (v := .agg #[(.slice B (z.left keep) cc), .int .i64 (z.left keep : Nat), .int .i64 2, .bool false]) (by simp [results, Try.results88, go_sem, m0, m1, m2, m3]) rfl ?_
                refine Fin.out _ _ _ Hf.out.symm (fun hB => ?_) (fun hO => ?_) hc.out
                · repeat (first | with_reducible exact hbr3 | refine Below.setCell ?_ (by simp) _)
                · repeat (first | with_reducible exact hown3 | refine own_setCell ?_ hne0 _ | refine own_setCell ?_ hne1 _)
              · have ez : (((z.left keep : Nat) : Int) == z.size) = false := beq_eq_false_iff_ne.2 hz
                have hor : ¬ (z.fin = true ∨ ((z.left keep : Nat) : Int) = z.size) := fun h => h.elim (by simp [hf]) hz
                have hc := hide (Zn.crash_empty keep h3 hor H0.out)
                rw [hf] at k3
                have Hf := hide hf
                clear hf h3 e0 e0' hz hor
                go_wp2_with fail
                refine bodyPost_ret (v := .agg #[(.slice B (z.left keep) cc), .int .i64 (z.left keep : Nat), .int .i64 0, .bool false]) (by simp [results, Try.results88, go_sem, m0, m1, m2, m3]) rfl ?_
                refine Fin.out _ _ _ Hf.out.symm (fun hB => ?_) (fun hO => ?_) hc.out
                · repeat (first | with_reducible exact hbr3 | refine Below.setCell ?_ (by simp) _)
                · repeat (first | with_reducible exact hown3 | refine own_setCell ?_ hne0 _ | refine own_setCell ?_ hne1 _)
          · have e0 : (((z.left keep : Nat) : Int) == 0) = false := beq_eq_false_iff_ne.2 (by omega)
            have e0' : (z.left keep == 0) = false := beq_eq_false_iff_ne.2 h0
            have H0 := hide h0
            clear h0
            go_upto_region 14 with (fail)
            obtain ⟨W3, hW3⟩ : ∃ W3 : World, W3 = (((wr.setCell ⟨w.heap.size, 0, none⟩ (.slice B (z.left keep) cc)).setCell ⟨w.heap.size, 1, none⟩ (.int .i64 (z.left keep : Nat))).setCell ⟨w.heap.size, 2, none⟩ (.int .i64 1)) := ⟨_, rfl⟩
            have hc0 : Blk W3 w.heap.size 93 #[(.slice B (z.left keep) cc), .int .i64 (z.left keep : Nat), .int .i64 1, .bool z.fin] := by rw [hW3]; exact (((hb0'.set_ 0 _)).set_ 1 _).set_ 2 _
            have hc1 : Blk W3 (w.heap.size + 1) 93 #[.slice none 0 0, .int .i64 0, .int .i64 0, .bool false] := by rw [hW3]; exact (((hb1').far (p := ⟨w.heap.size, 0, none⟩) (by simp) _).far (p := ⟨w.heap.size, 1, none⟩) (by simp) _).far (p := ⟨w.heap.size, 2, none⟩) (by simp) _
            have hbr3 : Below w.heap.size w W3 := by rw [hW3]; exact (((hbr').setCell (p := ⟨w.heap.size, 0, none⟩) (Nat.le_refl _) _).setCell (p := ⟨w.heap.size, 1, none⟩) (Nat.le_refl _) _).setCell (p := ⟨w.heap.size, 2, none⟩) (Nat.le_refl _) _
            have hown3 : W3.ownsRow 0 33 64 (.slice B (z.left keep) cc) (z.left keep) ((z.L.take (z.left keep)).flatMap Sec.cs) := by rw [hW3]; exact own_setCell (own_setCell (own_setCell (hown0) hne0 _) hne0 _) hne0 _
            rw [← hW3]
            clear hW3 k0 k1 k2 k3 f0 f1 f2 f3 m0 m1 m2 m3 g0 g1 g2 g3 hb0' hb1' hbr' hown0
            obtain ⟨k0, k1, k2, k3, f0, f1, f2, f3⟩ := hc0.four
            obtain ⟨m0, m1, m2, m3, g0, g1, g2, g3⟩ := hc1.four
            clear hc0 hc1
            by_cases hf : z.fin = true
            · have hc := hide (Zn.crash_full keep h3 (.inl hf))
              rw [hf] at k3
              have Hf := hide hf
              clear hf h3 e0 e0'
              go_wp2_with fail
              refine bodyPost_ret (v := .agg #[(.slice B (z.left keep) cc), .int .i64 (z.left keep : Nat), .int .i64 2, .bool true]) (by simp [results, Try.results88, go_sem, m0, m1, m2, m3]) rfl ?_
              refine Fin.out _ _ _ Hf.out.symm (fun hB => ?_) (fun hO => ?_) hc.out
              · repeat (first | with_reducible exact hbr3 | refine Below.setCell ?_ (by simp) _)
              · repeat (first | with_reducible exact hown3 | refine own_setCell ?_ hne0 _ | refine own_setCell ?_ hne1 _)
            · rw [Bool.not_eq_true] at hf
              by_cases hz : ((z.left keep : Nat) : Int) = z.size
              · have hc := hide (Zn.crash_full keep h3 (.inr hz))
                have ez : (((z.left keep : Nat) : Int) == z.size) = true := beq_iff_eq.2 hz
                rw [hf] at k3
                have Hf := hide hf
                clear hf h3 e0 e0' hz
                go_wp2_with fail
                refine bodyPost_ret (v := .agg #[(.slice B (z.left keep) cc), .int .i64 (z.left keep : Nat), .int .i64 2, .bool false]) (by simp [results, Try.results88, go_sem, m0, m1, m2, m3]) rfl ?_
                refine Fin.out _ _ _ Hf.out.symm (fun hB => ?_) (fun hO => ?_) hc.out
                · repeat (first | with_reducible exact hbr3 | refine Below.setCell ?_ (by simp) _)
                · repeat (first | with_reducible exact hown3 | refine own_setCell ?_ hne0 _ | refine own_setCell ?_ hne1 _)
              · have ez : (((z.left keep : Nat) : Int) == z.size) = false := beq_eq_false_iff_ne.2 hz
                have hor : ¬ (z.fin = true ∨ ((z.left keep : Nat) : Int) = z.size) := fun h => h.elim (by simp [hf]) hz
                have hc := hide (Zn.crash_open keep h3 hor H0.out)
                rw [hf] at k3
                have Hf := hide hf
                clear hf h3 e0 e0' hz hor
                go_wp2_with fail
                refine bodyPost_ret (v := .agg #[(.slice B (z.left keep) cc), .int .i64 (z.left keep : Nat), .int .i64 1, .bool false]) (by simp [results, Try.results88, go_sem, m0, m1, m2, m3]) rfl ?_
                refine Fin.out _ _ _ Hf.out.symm (fun hB => ?_) (fun hO => ?_) hc.out
                · repeat (first | with_reducible exact hbr3 | refine Below.setCell ?_ (by simp) _)
                · repeat (first | with_reducible exact hown3 | refine own_setCell ?_ hne0 _ | refine own_setCell ?_ hne1 _)
end Go.Proofs.Ytdinbhanekpjoaa.R7
