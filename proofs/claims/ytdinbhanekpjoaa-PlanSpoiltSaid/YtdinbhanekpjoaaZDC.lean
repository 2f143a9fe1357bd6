/-
  slices.Clone and the zone's Crash at frame.Sector.
-/
import Derived.Test.YtdinbhanekpjoaaZD
import Derived.Deep.DeepCutAuto
namespace Go.Proofs.Ytdinbhanekpjoaa.ZD
open Go.RowKit

theorem infoE : (Try.prog.info? 34).map (fun i => (i.zero, i.size, i.bytes)) = some (some Sec.zero.agg, 64, 64) := by kernel_rfl

/-- slices.Clone: the same cells in a row of the call's own. -/
theorem clone_any (A : Option Addr) (n cap : Nat) (xs : List Sec) (hx : xs.length = n) (w : World) (hn : n < 65536) (hA : A = none → n = 0)
    (hc : ∀ ad, A = some ad → ∀ j u, (xs.flatMap Sec.cs)[j]? = some u → w.cell? (ad.add j) = some u) :
    Calls Try.prog 91 #[.slice A n cap] w fun e w' => ∃ A' c', e = .returned (.slice A' n c') ∧ w'.ownsRow w.heap.size 34 64 (.slice A' n c') n (xs.flatMap Sec.cs) ∧ Below w.heap.size w w' := by
  obtain ⟨i0, hi, hz0, hz1, hz2⟩ := info_parts infoE
  cases A with
  | none =>
    obtain rfl := hA rfl
    have hxs : xs = [] := List.eq_nil_of_length_eq_zero hx
    subst hxs
    have hnil := fun w => Lib.run_eql_slice_nil (P := Try.prog) w 47 34 none 0 cap 0 0 Try.underlying47
    go_enter Try.func91, Try.ntmps91
    go_wp2
    go_ret
    exact ⟨none, 0, rfl, World.ownsRow_nil _ _ _ _, Below.refl _ _⟩
  | some ad =>
    have hnil := fun w => Lib.run_eql_slice_nil (P := Try.prog) w 47 34 (some ad) n cap 0 0 Try.underlying47
    have h1 : ∀ u ∈ xs.flatMap Sec.cs, u.oneCell' = true := flat_one xs
    have hl : (xs.flatMap Sec.cs).length = n * 64 := by rw [flat_length, hx]
    have hc' := hc ad rfl
    have Hc := hide hc'
    have Hl := hide hl
    have H1 := hide h1
    clear hc hc' hl h1 hA hx
    go_enter Try.func91, Try.ntmps91
    go_wp2_with (at_builtin; refine wpList_append_own _ rfl _ _ 47 rfl w.heap.size 34 i0 _ 64 64 Try.underlying47 hi hz0 hz1 hz2 rfl (by decide) (.slice (some ⟨w.heap.size, 0, none⟩) 0 0) 0 [] rfl (World.ownsRow_made _ #[] 0 (Nat.le_refl _) (by simp) rfl) ad n cap (xs.flatMap Sec.cs) rfl Hl.out (fun j u hu => Lib.cell?_alloc_some _ (Hc.out j u hu)) H1.out (by unfold maxLen; omega) (by omega) (by simp) ?_; intro v' w1 hown' hgrow hnil2; obtain ⟨A', c', rfl⟩ := own_form hown')
    go_ret
    refine ⟨A', c', by simp, by simpa using hown', ?_⟩
    exact (((Below.refl _ w).alloc (Nat.le_refl _) _)).grown hgrow (by simp) (fun k hk => by simp [Value.ownBlock] at hk; omega)

set_option maxHeartbeats 1000000 in
theorem crash_any (z : Zn Sec) (keep : Int) (b : Nat) (w : World) (F : Nat → Prop) (hz : At w b z F) (hn : z.L.length < 65536) (hs : z.safe ≤ z.L.length) :
    Calls Try.prog 62 #[.pointer (some ⟨b, 0, none⟩), .int .i64 keep] w fun e w' => e = .returned (.tuple #[]) ∧ Does w w' b (z.crash keep) F := by
  obtain ⟨A, c, hb, hFb, hown, hg, hlt⟩ := hz
  have c0 : w.cell? ⟨b, 0, none⟩ = _ := hb.cell 0
  have c1 : w.cell? ⟨b, 1, none⟩ = _ := hb.cell 1
  have c2 : w.cell? ⟨b, 2, none⟩ = _ := hb.cell 2
  have c3 : w.cell? ⟨b, 3, none⟩ = _ := hb.cell 3
  have c4 : w.cell? ⟨b, 4, none⟩ = _ := hb.cell 4
  simp only [List.getElem?_toArray, List.getElem?_cons_zero, List.getElem?_cons_succ] at c0 c1 c2 c3 c4
  have f0 := hb.frozen 0
  have f2 := hb.frozen 2
  have f3 := hb.frozen 3
  go_enter Try.func62, Try.ntmps62
  go_upto_region 0 with (fail)
  go_cut [4] (fun v wx => v = .int .i64 (z.left keep : Nat) ∧ ∃ nq, wx = w.drewN nq)
  case first =>
    by_cases h0 : keep < 0
    · have e : z.left keep = z.safe := by unfold Zn.left; omega
      go_quiet (fail)
      go_wp2_with fail
      go_meet
      exact ⟨by rw [e], _, rfl⟩
    · by_cases h1 : (z.L.length : Int) - z.safe < keep
      · have e : ((z.left keep : Nat) : Int) = z.safe + ((z.L.length : Int) - z.safe) := by unfold Zn.left; omega
        have H := hide e
        clear e
        go_quiet (fail)
        go_wp2_with fail
        go_meet
        exact ⟨by rw [H.out], _, rfl⟩
      · have e : ((z.left keep : Nat) : Int) = z.safe + keep := by unfold Zn.left; omega
        have H := hide e
        clear e
        go_quiet (fail)
        go_wp2_with fail
        go_meet
        exact ⟨by rw [H.out], _, rfl⟩
  case rest =>
    obtain ⟨rfl, nq, rfl⟩ := hcut
    have hN := Zn.left_le keep hs
    obtain ⟨hlc, hcm, hAn⟩ := own_cap hown
    have hcl := hide (clone_any A (z.left keep) c (z.L.take (z.left keep)) (by simp; omega) (w.drewN nq) (by omega) (fun e => by have := hAn e; omega)
      (fun ad had j u hu => own_cells hown ad had j u (by
        rw [flat_take, List.getElem?_take] at hu
        split at hu
        · exact hu
        · cases hu)))
    unfold maxLen at hcm
    go_upto_region 2 with (go_at_call 91; refine hcl.out.mono ?_; rintro e w1 ⟨A', c', rfl, hown1, hbel⟩; have hb1 : Blk w1 b _ _ := (hbel.block b hb.lt).trans hb; have d0 := hb1.cell 0; have d1 := hb1.cell 1; have d2 := hb1.cell 2; have d3 := hb1.cell 3; have d4 := hb1.cell 4; simp only [List.getElem?_toArray, List.getElem?_cons_zero, List.getElem?_cons_succ] at d0 d1 d2 d3 d4; have g0 := hb1.frozen 0; have g2 := hb1.frozen 2; have g3 := hb1.frozen 3)
    have hne : (Value.slice A' (z.left keep) c').ownBlock ≠ some b := fun e => by
      have := (hown1.lt b e).1
      have := hb.lt
      simp at *
      omega
    have hM1 : Mods F w w1 := ⟨hbel.os, hbel.tape, hbel.output, hbel.size, fun k hk _ => hbel.block k hk⟩
    have hat : ∀ g, (Value.slice A' (z.left keep) c').ownBlock = some g → (F g ∧ g ≠ b) ∨ w.heap.size ≤ g := fun g hg => .inr (hown1.lt g hg).1
    have hown1' := own_base hown1
    -- what every way ends in
    have fin : ∀ (st : Int) (W : World), Blk W b 131 #[.slice A' (z.left keep) c', .int .i64 z.size, .int .i64 (z.left keep : Nat), .int .i64 st, .bool z.fin] → (Mods F w w1 → Mods F w W) →
        (w1.ownsRow 0 34 64 (.slice A' (z.left keep) c') (z.left keep) ((z.L.take (z.left keep)).flatMap Sec.cs) → W.ownsRow 0 34 64 (.slice A' (z.left keep) c') (z.left keep) ((z.L.take (z.left keep)).flatMap Sec.cs)) →
        z.crash keep = { z with L := z.L.take (z.left keep), safe := z.left keep, state := st } → Does w W b (z.crash keep) F := fun st W hB hM hO e => by
      rw [e]
      have hl : (z.L.take (z.left keep)).length = z.left keep := by simp; omega
      refine SDid.mk' (A := A') (c := c') (z' := { z with L := z.L.take (z.left keep), safe := z.left keep, state := st }) ?_ (hM hM1) hFb ?_ ?_ hlt
      · simp only [hl]; exact hB
      · simp only [hl]; exact hO hown1'
      · simp only [hl]; exact hat
    have Fin := hide fin
    clear fin hM1 hat hown1' hown1 hbel hown hg hlt hb
    by_cases h3 : 3 ≤ z.state
    · have he := hide (Zn.crash_failed keep h3)
      go_wp2
      go_end0
      refine ⟨rfl, Fin.out z.state _ ((hb1.set_ 0 _).set_ 2 _) (fun hM => (hM.setCell (.inl hFb) _).setCell (.inl hFb) _) (fun hO => own_setCell (own_setCell hO hne _) hne _) he.out⟩
    · have close : ∀ st : Int, z.crash keep = { z with L := z.L.take (z.left keep), safe := z.left keep, state := st } → Hid (Does w (((w1.setCell ⟨b, 0, none⟩ (.slice A' (z.left keep) c')).setCell ⟨b, 2, none⟩ (.int .i64 (z.left keep : Nat))).setCell ⟨b, 3, none⟩ (.int .i64 st)) b (z.crash keep) F) :=
        fun st e => hide (Fin.out st _ (((hb1.set_ 0 _).set_ 2 _).set_ 3 _) (fun hM => ((hM.setCell (.inl hFb) _).setCell (.inl hFb) _).setCell (.inl hFb) _) (fun hO => own_setCell (own_setCell (own_setCell hO hne _) hne _) hne _) e)
      clear Fin hb1
      by_cases hf : z.fin = true
      · have he := close 2 (Zn.crash_full keep h3 (.inl hf))
        rw [hf] at d4
        clear hf close
        go_wp2
        go_end0
        exact ⟨rfl, he.out⟩
      · by_cases hz : ((z.left keep : Nat) : Int) = z.size
        · have he := close 2 (Zn.crash_full keep h3 (.inr hz))
          have ez : (((z.left keep : Nat) : Int) == z.size) = true := beq_iff_eq.2 hz
          rw [Bool.not_eq_true] at hf
          rw [hf] at d4
          clear hf close hz
          go_wp2
          go_end0
          exact ⟨rfl, he.out⟩
        · have ez : (((z.left keep : Nat) : Int) == z.size) = false := beq_eq_false_iff_ne.2 hz
          have hor : ¬ (z.fin = true ∨ ((z.left keep : Nat) : Int) = z.size) := fun h => h.elim hf hz
          rw [Bool.not_eq_true] at hf
          rw [hf] at d4
          by_cases h0 : z.left keep = 0
          · have he := close 0 (Zn.crash_empty keep h3 hor h0)
            have e0 : (((z.left keep : Nat) : Int) == 0) = true := beq_iff_eq.2 (by omega)
            have e0' : (z.left keep == 0) = true := beq_iff_eq.2 h0
            clear hf close hz hor h0
            go_wp2
            go_end0
            exact ⟨rfl, he.out⟩
          · have he := close 1 (Zn.crash_open keep h3 hor h0)
            have e0 : (((z.left keep : Nat) : Int) == 0) = false := beq_eq_false_iff_ne.2 (by omega)
            have e0' : (z.left keep == 0) = false := beq_eq_false_iff_ne.2 h0
            clear hf close hz hor h0
            go_wp2
            go_end0
            exact ⟨rfl, he.out⟩
end Go.Proofs.Ytdinbhanekpjoaa.ZD
