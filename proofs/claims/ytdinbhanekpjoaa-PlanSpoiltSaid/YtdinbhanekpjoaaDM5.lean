/-
  A device's Append.
-/
import Derived.Test.YtdinbhanekpjoaaDM4
namespace Go.Proofs.Ytdinbhanekpjoaa.DM
open Go.RowKit
section
variable {w : World} {d : Nat} {D : Dv} {F : Nat → Prop} {A : Option Addr} {c : Nat} {bs : List Nat} {Fs : Nat → Nat → Prop}
theorem quiet {P : Program} {f : FuncId} {args : Array Value} {w : World} {v : Value} (h : ∀ n, Calls P f args (w.drewN n) fun e w' => e = .returned v ∧ w.drewN n = w') (n : Nat) : Calls P f args (w.drewN n) fun e w'' => e = .returned v ∧ ∃ m, w'' = w.drewN m :=
  Calls.quiet_of_same ((h n).mono fun _ _ h => ⟨h.1, h.2.symm⟩)

set_option maxRecDepth 100000 in
set_option maxHeartbeats 1000000 in
theorem append_any (h : DevIs w d D F A c bs Fs) (hn : D.n < 65536) (hl : D.zs.length < 65536) (hL : ∀ x ∈ D.zs, x.L.length < 65536) (z : Int) (s : Sec) : Calls Try.prog 22 #[.pointer (some ⟨d, 0, none⟩), .int .i64 z, s.agg] w fun e w' =>
    e = .returned (.tuple #[.int .i64 (D.append z s).2.1, .int .i64 (D.append z s).2.2]) ∧ DDid w w' d (D.append z s).1 F A c bs := by
  have hB := (Below.refl w.heap.size w).alloc (Nat.le_refl _) (.cells s.cs.toArray 34)
  have hP : Blk (w.alloc (.cells s.cs.toArray 34)) w.heap.size 34 s.cs.toArray := Blk.new _ _ _
  have hb := h.below hB
  have hFl := h.lt
  unfold Sec.agg
  by_cases h0 : (D.begin_ z).2 = 0
  · obtain ⟨hd, k, rfl, hk⟩ := Dv.begin_zero h0
    have Hbe := hide (Dv.begin_in k hd hk)
    have HL := hide (hL _ (List.getElem_mem hk))
    have HB := hide hB
    have HP := hide hP
    have Hbd := hide (begin_any hb hn (k : Int))
    have HF := hide hFl
    have Hl := hide hl
    have Hd := hide hd
    clear h0 hd h hL hP hB hb hFl hl
    go_enter Try.func22, Try.ntmps22
    go_wp2_with fail
    generalize hW : w.alloc _ = W1
    rw [hW] at HB HP Hbd
    clear hW
    refine Hbd.out.mono ?_
    rw [Hbe.out]
    rintro e w1 ⟨rfl, F1, Fs1, h1, hm1, hF1⟩
    have hk1 : k < D.tick.zs.length := hk
    obtain ⟨g, rfl, hlc, hk', c0, cg, hz⟩ := ready h1 hk1
    obtain ⟨-, -, c2, -⟩ := h1.cells
    obtain ⟨zA, zc, hzb, -⟩ := hz
    have z3 : w1.cell? ⟨bs[k], 3, none⟩ = some (.int .i64 D.zs[k].state) := hzb.cell 3
    have Hst : Hid (∀ n, Calls Try.prog 47 #[.pointer (some ⟨bs[k], 0, none⟩)] (w1.drewN n) fun e w' => e = .returned (.int .i64 D.zs[k].state) ∧ w1.drewN n = w') := hide (fun n => ZD.state_any bs[k] _ (w1.drewN n) z3)
    have Hop : Hid (∀ n, Calls Try.prog 60 #[.pointer (some ⟨d, 0, none⟩)] (w1.drewN n) fun e w' => e = .returned (.int .i64 (D.opened : Int)) ∧ w1.drewN n = w') := hide (fun n => opened_any (D := D.tick) (h1.drewN n) Hl.out)
    have H1 := hide h1
    have HP1 : Hid (Blk w1 w.heap.size 34 s.cs.toArray) := hide (HP.out.mods hm1 (fun hk => by have := HF.out _ hk; omega))
    have hlen : D.tick.zs.length = D.zs.length := rfl
    rw [hlen] at c0 hlc
    have c2' : w1.cell? ⟨d, 2, none⟩ = some (.int .i64 D.op) := c2
    have hdl : d < w1.heap.size := h1.lt d h1.inF.1
    have hgl : g < w1.heap.size := h1.lt g (h1.inF.2.1 g rfl)
    have hnd := h1.noD k hk1
    have hng := (h1.noR g rfl).2 k hk1
    have hbox : ¬ Fs1 k w.heap.size := fun h => by
      rcases hF1 _ (h1.inF.2.2 k hk1 _ h) with h2 | h2
      · have := HF.out _ h2; omega
      · have := HP.out.lt; omega
    clear h1 hlen hzb z3 c2
    by_cases hs0 : D.zs[k].state = 0
    · have es : (D.zs[k].state == 0) = true := beq_iff_eq.2 hs0
      have Hs0 := hide hs0
      clear hs0
      by_cases ho : D.op ≤ (D.opened : Int)
      · have eo : decide (D.op ≤ (D.opened : Int)) = true := decide_eq_true ho
        have hfin := hide (Dv.append_open s Hd.out hk Hs0.out ho)
        clear ho
        go_upto_region 4 with (fail)
        go_quiet (first | (go_at_call 47; exact quiet Hst.out _) | (go_at_call 60; exact quiet Hop.out _))
        go_wp2_with fail
        go_ret2
        rw [hfin.out]
        exact ⟨rfl, DDid.ahead HB.out ⟨F1, Fs1, H1.out.drewN nq, hm1.drewN nq, hF1⟩⟩
      · have eo : decide (D.op ≤ (D.opened : Int)) = false := decide_eq_false ho
        have hfin := hide (Dv.append_in s Hd.out hk (fun h => ho h.2))
        clear ho
        go_upto_region 4 with (fail)
        go_quiet (first | (go_at_call 47; exact quiet Hst.out _) | (go_at_call 60; exact quiet Hop.out _))
        go_upto_region 6 with (fail)
        have H2 := hide (H1.out.drewN nq)
        have HP2 : Hid (Blk (w1.drewN nq) w.heap.size 34 s.cs.toArray) := HP1
        have y0 : (w1.drewN nq).cell? ⟨d, 0, none⟩ = some (.slice (some ⟨g, 0, none⟩) D.zs.length c) := c0
        have yg : (w1.drewN nq).cell? ⟨g, k, none⟩ = some (.pointer (some ⟨bs[k], 0, none⟩)) := cg
        have Hm2 : Hid (Mods F W1 (w1.drewN nq)) := hide (hm1.drewN nq)
        have hdl2 : d < (w1.drewN nq).drew.heap.size := hdl
        have hgl2 : g < (w1.drewN nq).drew.heap.size := hgl
        generalize w1.drewN nq = w2 at H2 HP2 y0 yg Hm2 hdl2 hgl2 ⊢
        have Hap := hide (ZD.append_any D.zs[k] s bs[k] w2.drew (Fs1 k) (H2.out.drew.zone k hk1 hk') HL.out)
        have hra := hide ((World.rangeAt_drew w2 _ _ _).2 (ZD.range_blk s HP2.out))
        clear c0 cg Hst Hop
        have hu := Try.underlying34
        have hi := ZD.sizeSec s
        have h1s := s.one
        go_region_held3 (fun w' => w'.cell? ⟨d, 0, none⟩ = some (.slice (some ⟨g, 0, none⟩) D.zs.length c) ∧ w'.cell? ⟨g, k, none⟩ = some (.pointer (some ⟨bs[k], 0, none⟩)) ∧ w'.rangeAt w.heap.size 0 s.cs) (first | exact ⟨y0, yg, hra.out⟩ | exact ⟨q0, qg, qr⟩ | go_keep)
          (first | (go_at_call 61; refine Hap.out.mono ?_; rintro e w3 ⟨rfl, hd3⟩; have Hd3 := hide hd3; obtain ⟨_, _, hm3, _⟩ := hd3; have q0 := (hm3.cell (p := ⟨d, 0, none⟩) hdl2 hnd).trans y0; have qg := (hm3.cell (p := ⟨g, k, none⟩) hgl2 hng).trans yg; have qr := ZD.range_blk s (HP2.out.drew.mods hm3 hbox)))
        go_wp2_with fail
        go_ret2
        rw [hfin.out]
        exact ⟨rfl, DDid.ahead HB.out (DDid.join Hm2.out.drew hF1 (H2.out.drew.step hk1 hk' Hd3.out))⟩
    · have es : (D.zs[k].state == 0) = false := beq_eq_false_iff_ne.2 hs0
      have hfin := hide (Dv.append_in s Hd.out hk (fun h => hs0 h.1))
      clear hs0
      go_upto_region 4 with (fail)
      go_quiet (first | (go_at_call 47; exact quiet Hst.out _) | (go_at_call 60; exact quiet Hop.out _))
      go_upto_region 6 with (fail)
      have H2 := hide (H1.out.drewN nq)
      have HP2 : Hid (Blk (w1.drewN nq) w.heap.size 34 s.cs.toArray) := HP1
      have y0 : (w1.drewN nq).cell? ⟨d, 0, none⟩ = some (.slice (some ⟨g, 0, none⟩) D.zs.length c) := c0
      have yg : (w1.drewN nq).cell? ⟨g, k, none⟩ = some (.pointer (some ⟨bs[k], 0, none⟩)) := cg
      have Hm2 : Hid (Mods F W1 (w1.drewN nq)) := hide (hm1.drewN nq)
      have hdl2 : d < (w1.drewN nq).drew.heap.size := hdl
      have hgl2 : g < (w1.drewN nq).drew.heap.size := hgl
      generalize w1.drewN nq = w2 at H2 HP2 y0 yg Hm2 hdl2 hgl2 ⊢
      have Hap := hide (ZD.append_any D.zs[k] s bs[k] w2.drew (Fs1 k) (H2.out.drew.zone k hk1 hk') HL.out)
      have hra := hide ((World.rangeAt_drew w2 _ _ _).2 (ZD.range_blk s HP2.out))
      clear c0 cg Hst Hop
      have hu := Try.underlying34
      have hi := ZD.sizeSec s
      have h1s := s.one
      go_region_held3 (fun w' => w'.cell? ⟨d, 0, none⟩ = some (.slice (some ⟨g, 0, none⟩) D.zs.length c) ∧ w'.cell? ⟨g, k, none⟩ = some (.pointer (some ⟨bs[k], 0, none⟩)) ∧ w'.rangeAt w.heap.size 0 s.cs) (first | exact ⟨y0, yg, hra.out⟩ | exact ⟨q0, qg, qr⟩ | go_keep)
        (first | (go_at_call 61; refine Hap.out.mono ?_; rintro e w3 ⟨rfl, hd3⟩; have Hd3 := hide hd3; obtain ⟨_, _, hm3, _⟩ := hd3; have q0 := (hm3.cell (p := ⟨d, 0, none⟩) hdl2 hnd).trans y0; have qg := (hm3.cell (p := ⟨g, k, none⟩) hgl2 hng).trans yg; have qr := ZD.range_blk s (HP2.out.drew.mods hm3 hbox)))
      go_wp2_with fail
      go_ret2
      rw [hfin.out]
      exact ⟨rfl, DDid.ahead HB.out (DDid.join Hm2.out.drew hF1 (H2.out.drew.step hk1 hk' Hd3.out))⟩
  · have hfin := hide (Dv.append_no s h0)
    have e0 : ((D.begin_ z).2 != 0) = true := by simpa using h0
    have HB := hide hB
    have Hbd := hide (begin_any hb hn z)
    clear h0 h hL hP hB hb hFl hl
    go_enter Try.func22, Try.ntmps22
    go_wp2_with fail
    generalize hW : w.alloc _ = W1
    rw [hW] at HB Hbd
    clear hW
    refine Hbd.out.mono ?_
    rintro e w1 ⟨rfl, hd1⟩
    have Hd1 := hide hd1
    clear hd1
    go_wp2_with fail
    go_ret2
    rw [hfin.out]
    exact ⟨rfl, DDid.ahead HB.out Hd1.out⟩
end
end Go.Proofs.Ytdinbhanekpjoaa.DM
