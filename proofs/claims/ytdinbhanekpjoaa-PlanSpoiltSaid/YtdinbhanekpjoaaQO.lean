/-
  How a slice of steps of 136 cells that comes in is read: a device's step's fields and an event an element.
-/
import Derived.Test.YtdinbhanekpjoaaOpen7
import Derived.Test.YtdinbhanekpjoaaQStep8
import Derived.Test.YtdinbhanekpjoaaRel7
namespace Go.Proofs.Ytdinbhanekpjoaa
open Go.ChangeShapes Go.WideShapes Go.ChangeAt Go.RowKit Go.Deep

section
variable {H : Type} {enc : TypeId × Value → H} {w : World} {base : Nat} {spare : Nat → Bool} {held : Bool} {fuel : Nat}
/-- An event that came in. -/
theorem ev_came {cs : List Value} (hl : cs.length = 68) {x : DataW H × List MemPlace} (h : DataW.trod enc Try.prog w base spare held fuel 66 cs = some x) : ∃ e : EvV, cs = e.cells ∧ e.Fits := by
  obtain ⟨ys, n', _, _, _, hyl, hfs⟩ := DataW.trod_struct Try.underlying66 h
  have c3 : Try.prog.cellsOf 3 = 1 := by kernel_rfl
  have cS : Try.prog.cellsOf 34 = 64 := by kernel_rfl
  have one : ∀ k (hk : k < 68), (cs.drop k).take 1 = [cs[k]] := fun k hk => by
    rw [List.drop_eq_getElem_cons (by omega)]; rfl
  have f0 : DataW.trod enc Try.prog w base spare held n' 3 ((cs.drop 0).take (Try.prog.cellsOf 3)) = ys[0]? := by have := hfs 0 _ rfl; exact this
  have f1 : DataW.trod enc Try.prog w base spare held n' 3 ((cs.drop 1).take (Try.prog.cellsOf 3)) = ys[1]? := by have := hfs 1 _ rfl; exact this
  have f2 : DataW.trod enc Try.prog w base spare held n' 3 ((cs.drop 2).take (Try.prog.cellsOf 3)) = ys[2]? := by have := hfs 2 _ rfl; exact this
  have f3 : DataW.trod enc Try.prog w base spare held n' 3 ((cs.drop 3).take (Try.prog.cellsOf 3)) = ys[3]? := by have := hfs 3 _ rfl; exact this
  have f4 : DataW.trod enc Try.prog w base spare held n' 34 ((cs.drop 4).take (Try.prog.cellsOf 34)) = ys[4]? := by have := hfs 4 _ rfl; exact this
  have hy5 : ys.length = 5 := hyl
  rw [c3, one 0 (by omega), List.getElem?_eq_getElem (show 0 < ys.length by omega)] at f0
  rw [c3, one 1 (by omega), List.getElem?_eq_getElem (show 1 < ys.length by omega)] at f1
  rw [c3, one 2 (by omega), List.getElem?_eq_getElem (show 2 < ys.length by omega)] at f2
  rw [c3, one 3 (by omega), List.getElem?_eq_getElem (show 3 < ys.length by omega)] at f3
  rw [cS, List.getElem?_eq_getElem (show 4 < ys.length by omega)] at f4
  obtain ⟨z0, e0, _, u0⟩ := DataW.trod_int Try.underlying3 f0
  obtain ⟨z1, e1, _, u1⟩ := DataW.trod_int Try.underlying3 f1
  obtain ⟨z2, e2, _, u2⟩ := DataW.trod_int Try.underlying3 f2
  obtain ⟨z3, e3, _, u3⟩ := DataW.trod_int Try.underlying3 f3
  obtain ⟨s, e4⟩ := sec_came f4
  simp only [List.cons.injEq, and_true] at e0 e1 e2 e3
  refine ⟨⟨z0, z1, z2, z3, s⟩, ?_, ⟨u0, u1, u2, u3⟩⟩
  have hcs : cs = [cs[0], cs[1], cs[2], cs[3]] ++ (cs.drop 4).take 64 := by
    have t1 : cs.take 4 = [cs[0], cs[1], cs[2], cs[3]] := by
      rw [List.take_succ_eq_append_getElem (by omega), List.take_succ_eq_append_getElem (by omega), List.take_succ_eq_append_getElem (by omega), List.take_succ_eq_append_getElem (by omega), List.take_zero]; rfl
    rw [← t1]
    conv => lhs; rw [← List.take_append_drop 4 cs]
    rw [List.take_of_length_le (l := cs.drop 4) (by simp; omega)]
  rw [hcs, e0, e1, e2, e3, e4]
  rfl
end

instance : Inhabited OpP := ⟨⟨⟨0, 0, 0, Sec.zero, none, [], 0⟩, EvV.zero⟩⟩
/-- What is known of the slice of steps that came in. -/
def CameOps8 (w : World) (A : Option Addr) (ps : List OpP) : Prop :=
  (∀ p ∈ ps, DM.CameInts w p.o.K p.o.keep ∧ p.o.keep.length ≤ maxLen ∧ p.Fits) ∧ (0 < ps.length → ∃ b off, A = some ⟨b, off, none⟩ ∧ b < w.heap.size ∧ ∀ k (h : k < ps.length), w.rangeAt b (off + k * 136) ps[k].cells)
theorem CameOps8.below {w wr : World} {A : Option Addr} {ps : List OpP} (h : CameOps8 w A ps) (hb : Below w.heap.size w wr) : CameOps8 wr A ps :=
  ⟨fun o ho => ⟨(h.1 o ho).1.mods (Mods.of_below hb (fun _ => False)) (fun _ _ _ _ h => h), (h.1 o ho).2⟩, fun hp => by
    obtain ⟨b, off, e, hlt, hc⟩ := h.2 hp
    exact ⟨b, off, e, Nat.lt_of_lt_of_le hlt hb.size, fun k hk => R7.range_mods (hc k hk) (Mods.of_below hb (fun _ => False)) (fun h => h)⟩⟩
theorem OpP.fits' {p : OpP} (h1 : fits p.o.zone) (h2 : fits p.o.off) (h3 : p.e.Fits) : p.Fits := ⟨h1, h2, h3⟩
theorem sizeOp8 (p : OpP) : (Try.prog.info? 68).map (·.size) = some p.cells.length := by rw [OpP.length]; kernel_rfl
theorem sizeOp8R (p : OpP) : (Try.prog.info? 68).map (·.size) = some p.cells.toArray.size := by rw [List.size_toArray]; exact sizeOp8 p
theorem OpV.one8 (o : OpV) : ∀ v ∈ o.cells, v.oneCell' = true := fun v hv => by
  unfold OpV.cells at hv
  simp only [List.mem_append, List.mem_cons, List.not_mem_nil, or_false] at hv
  rcases hv with ((rfl | rfl | rfl) | h) | rfl
  · rfl
  · rfl
  · rfl
  · exact o.s.one v h
  · rfl
theorem OpP.all (p : OpP) : p.cells.toArray.all (·.oneCell') = true := by
  rw [Array.all_eq_true']
  intro v hv
  rcases List.mem_append.1 (show v ∈ p.o.cells ++ p.e.cells by simpa [OpP.cells] using hv) with h | h
  · exact p.o.one8 v h
  · exact p.e.one v h
def OpP.zero : OpP := ⟨⟨0, 0, 0, Sec.zero, none, [], 0⟩, EvV.zero⟩
theorem range_op8 {w : World} {g : Nat} {t : TypeId} (p : OpP) (h : Blk w g t p.cells.toArray) : w.rangeAt g 0 p.cells := fun j v hv => by
  rw [Nat.zero_add, h.cell j, List.getElem?_toArray, hv]

/-- The steps of a slice that came in: as many as it is long, and each is there. -/
theorem ops8_came {H : Type} {enc : TypeId × Value → H} {W : World} {v : Value} {d : DataW H} {p : List MemPlace} {len cap : Nat} {a : Option Addr} (h : DataW.Trod enc Try.prog W 0 (fun _ => true) true 58 v d p)
    (hv : v = .slice a len cap) : len ≤ maxLen ∧ ∃ ps : List OpP, ps.length = len ∧ CameOps8 W a ps := by
  subst hv
  obtain ⟨fuel, hf⟩ := h
  have hC : Try.prog.cellsOf 68 = 136 := by kernel_rfl
  rcases open_slice Try.underlying58 hf with ⟨hcs, hx⟩ | ⟨ad, len', cap', m, n, D, Pl, hcs, _, hl, hm, hmm, hx, hi⟩
  · simp [Value.cells] at hcs
    obtain ⟨rfl, rfl, rfl⟩ := hcs
    exact ⟨Nat.zero_le _, [], rfl, fun _ h => absurd h (by simp), fun h => absurd h (by simp)⟩
  · simp [Value.cells] at hcs
    obtain ⟨rfl, rfl, rfl⟩ := hcs
    simp only [if_true] at hmm
    subst hmm
    refine ⟨by omega, ?_⟩
    have hop : ∀ i, i < m → ∃ o : OpP, (DM.CameInts W o.o.K o.o.keep ∧ o.o.keep.length ≤ maxLen ∧ o.Fits) ∧ ∀ j (hj : j < 136), W.cell? (ad.add (i * 136 + j)) = o.cells[j]? := by
      intro i him
      obtain ⟨cs', hc, ht⟩ := hi i him
      rw [hC] at hc
      obtain ⟨_, hcl, hat⟩ := World.cells?_some hc
      obtain ⟨ys, n', _, _, _, hyl, hfs⟩ := DataW.trod_struct Try.underlying68 ht
      have c3 : Try.prog.cellsOf 3 = 1 := by kernel_rfl
      have cS : Try.prog.cellsOf 34 = 64 := by kernel_rfl
      have cK : Try.prog.cellsOf 35 = 1 := by kernel_rfl
      have cE : Try.prog.cellsOf 66 = 68 := by kernel_rfl
      have one : ∀ k (hk : k < 136), (cs'.drop k).take 1 = [cs'[k]] := fun k hk => by
        rw [List.drop_eq_getElem_cons (by omega)]; rfl
      have f0 : DataW.trod enc Try.prog W 0 (fun _ => true) true n' 3 ((cs'.drop 0).take (Try.prog.cellsOf 3)) = ys[0]? := by have := hfs 0 _ rfl; exact this
      have f1 : DataW.trod enc Try.prog W 0 (fun _ => true) true n' 3 ((cs'.drop 1).take (Try.prog.cellsOf 3)) = ys[1]? := by have := hfs 1 _ rfl; exact this
      have f2 : DataW.trod enc Try.prog W 0 (fun _ => true) true n' 3 ((cs'.drop 2).take (Try.prog.cellsOf 3)) = ys[2]? := by have := hfs 2 _ rfl; exact this
      have f3 : DataW.trod enc Try.prog W 0 (fun _ => true) true n' 34 ((cs'.drop 3).take (Try.prog.cellsOf 34)) = ys[3]? := by have := hfs 3 _ rfl; exact this
      have f4 : DataW.trod enc Try.prog W 0 (fun _ => true) true n' 35 ((cs'.drop 67).take (Try.prog.cellsOf 35)) = ys[4]? := by have := hfs 4 _ rfl; exact this
      have f5 : DataW.trod enc Try.prog W 0 (fun _ => true) true n' 66 ((cs'.drop 68).take (Try.prog.cellsOf 66)) = ys[5]? := by have := hfs 5 _ rfl; exact this
      have hy6 : ys.length = 6 := hyl
      rw [c3, one 0 (by omega), List.getElem?_eq_getElem (show 0 < ys.length by omega)] at f0
      rw [c3, one 1 (by omega), List.getElem?_eq_getElem (show 1 < ys.length by omega)] at f1
      rw [c3, one 2 (by omega), List.getElem?_eq_getElem (show 2 < ys.length by omega)] at f2
      rw [cS, List.getElem?_eq_getElem (show 3 < ys.length by omega)] at f3
      rw [cK, one 67 (by omega), List.getElem?_eq_getElem (show 4 < ys.length by omega)] at f4
      rw [cE, List.getElem?_eq_getElem (show 5 < ys.length by omega)] at f5
      obtain ⟨z0, e0, _, _⟩ := DataW.trod_int Try.underlying3 f0
      obtain ⟨z1, e1, _, u1⟩ := DataW.trod_int Try.underlying3 f1
      obtain ⟨z2, e2, _, u2⟩ := DataW.trod_int Try.underlying3 f2
      obtain ⟨s, e3⟩ := sec_came f3
      obtain ⟨K, keep, kc, e4, hkl, hK⟩ := ints_came f4
      obtain ⟨ev, e5, hev⟩ := ev_came (by simp; omega) f5
      simp only [List.cons.injEq, and_true] at e0 e1 e2 e4
      refine ⟨⟨⟨z0, z1, z2, s, K, keep, kc⟩, ev⟩, ⟨hK, hkl, ⟨u1, u2, hev⟩⟩, fun j hj => ?_⟩
      have hcs : cs' = [cs'[0], cs'[1], cs'[2]] ++ (cs'.drop 3).take 64 ++ [cs'[67]] ++ (cs'.drop 68).take 68 := by
        have t1 : cs'.take 3 = [cs'[0], cs'[1], cs'[2]] := by
          rw [List.take_succ_eq_append_getElem (by omega), List.take_succ_eq_append_getElem (by omega), List.take_succ_eq_append_getElem (by omega), List.take_zero]; rfl
        have t3 : (cs'.drop 68).take 68 = cs'.drop 68 := List.take_of_length_le (by simp; omega)
        have t2 : cs'.drop 67 = [cs'[67]] ++ cs'.drop 68 := by
          rw [List.drop_eq_getElem_cons (by omega)]; rfl
        rw [← t1, t3]
        conv => lhs; rw [← List.take_append_drop 3 cs', ← List.take_append_drop 64 (cs'.drop 3), List.drop_drop, t2]
        simp only [List.append_assoc]
      have hcells : (⟨⟨z0, z1, z2, s, K, keep, kc⟩, ev⟩ : OpP).cells = cs' := by
        rw [hcs, e0, e1, e2, e3, e4, e5]
        rfl
      rw [hcells]
      have := hat j hj
      rw [← Go.Deep.add_add]
      exact this
    obtain ⟨f, hf'⟩ := choose_lt hop
    refine ⟨(List.range len).map f, by simp, fun o ho => ?_, fun hpos => ?_⟩
    · obtain ⟨k, hk, rfl⟩ := List.mem_map.1 ho
      exact (hf' k (by have := List.mem_range.1 hk; omega)).1
    · simp only [List.length_map, List.length_range] at hpos
      obtain ⟨b, off, spot⟩ := ad
      have hc0 : W.cell? ((⟨b, off, spot⟩ : Addr).add (0 * 136 + 0)) = some (.int .i64 (f 0).o.kind) := ((hf' 0 (by omega)).2 0 (by omega)).trans rfl
      have hspot : spot = none := by simpa [Addr.add] using World.cell?_spot hc0
      subst hspot
      refine ⟨b, off, rfl, World.block_lt_of_cell? _ _ hc0, fun k hk j v hv => ?_⟩
      simp only [List.length_map, List.length_range] at hk
      have hj : j < 136 := by rw [← OpP.length]; exact (List.getElem?_eq_some_iff.1 hv).1
      have := (hf' k (by omega)).2 j hj
      simp only [add_plain] at this
      simp only [List.getElem_map, List.getElem_range] at hv
      rw [Nat.add_assoc, this, hv]
end Go.Proofs.Ytdinbhanekpjoaa

/-
  The laws of chapter 08: the anchor, the beginning, and what a law's loop carries: the drive, and the document's in a block.
-/
namespace Go.Proofs.Ytdinbhanekpjoaa
open Go.RowKit
namespace An8
def e : EvV := ⟨1, 4, 0, 0, Sec.zero⟩
def p : OpP := ⟨⟨1, 0, 0, Sec.one1, none, [], 0⟩, e⟩
def X0 : Dr := DV.Dr.made 1 4 1
def X1 : Dr := (X0.plan e).1
def X2 : Dr := (X1.append 0 Sec.one1).1
def X3 : Dr := (X2.append 0 Sec.one1).1
theorem c1 : (X0.plan e).2 = 0 := by rfl
theorem c2 : (X1.append 0 Sec.one1).2.2 = 0 := by rfl
theorem c3 : (X2.append 0 Sec.one1).2.2 = 34 := by rfl
theorem c4 : X3.D.lenOf 0 = 1 := by rfl
theorem f1 : fits 1 := fits_of (by decide) (by decide)
theorem f4 : fits 4 := fits_of (by decide) (by decide)
theorem fe : e.Fits := ⟨f1, f4, Dr.fits_zero, Dr.fits_zero⟩
theorem fp : p.Fits := ⟨Dr.fits_zero, Dr.fits_zero, fe⟩
theorem g0 : X0.Good 0 := Dr.Good.made 1 4 1
theorem g1 : X1.Good 1 := (g0.two.plan fe).one (by omega)
theorem g2 : X2.Good 2 := (g1.play (by omega) fp).1
theorem l0 : X0.D.zs.length = 1 := by rfl
theorem l1 : X1.D.zs.length = 1 := by rfl
theorem l2 : X2.D.zs.length = 1 := by rfl
end An8
set_option maxRecDepth 100000 in
set_option maxHeartbeats 1000000 in
theorem anchor8_any (w : World) : Calls Try.prog 33 #[] w fun e w' => e = .returned (.bool true) ∧ Below w.heap.size w w' := by
  go_enter Try.func33, Try.ntmps33
  go_wp2_with fail
  refine (DV.new_any 1 4 1 _ (by omega) (by omega) (by omega) (by omega) (by omega) (by omega)).mono ?_
  rintro e w1 ⟨q, rfl, F1, FD1, A1, b1, bs1, Fs1, mb1, n1, Ac1, cc1, Ah1, ch1, h1, hb1, hF1, hs1⟩
  have H1 : DrvIs w1 q w.heap.size An8.X0 F1 FD1 A1 b1 bs1 Fs1 mb1 n1 Ac1 cc1 Ah1 ch1 := h1
  have hpl := DV.plan_any H1 An8.e (by simp [An8.X0, DV.Dr.made, Sorted8]) (by simp [An8.X0, DV.Dr.made])
  rw [An8.c1] at hpl
  have Hpl := hide hpl
  have Hb1 := hide hb1
  have HF1 := hide hF1
  have Hs1 := hide hs1
  clear h1 H1 hb1 hF1 hs1 hpl
  go_wp2_with fail
  refine Hpl.out.mono ?_
  rintro e w2 ⟨rfl, F2, FD2, A2, b2, bs2, Fs2, mb2, n2, Ac2, cc2, Ah2, ch2, h2, hm2, hF2⟩
  have H2 : DrvIs w2 q w.heap.size An8.X1 F2 FD2 A2 b2 bs2 Fs2 mb2 n2 Ac2 cc2 Ah2 ch2 := h2
  have hap := DV.append_any H2 (An8.g1.bd (by omega)) An8.g1.ok (by omega) (by rw [An8.l1]; omega) 0 Sec.one1 Dr.fits_zero
  rw [An8.c2] at hap
  have Hap := hide hap
  have Hb2 := hide (Hb1.out.trans (hm2.below Hs1.out HF1.out))
  have HF2 : Hid (∀ k, F2 k → w.heap.size ≤ k) := hide (fun k hk => by
    rcases hF2 k hk with h | h
    · exact HF1.out k h
    · have := Hs1.out; omega)
  clear h2 H2 hm2 hF2 Hpl hap
  go_wp2_with fail
  refine Hap.out.mono ?_
  rintro e w3 ⟨rfl, F3, FD3, A3, b3, bs3, Fs3, mb3, n3, Ac3, cc3, Ah3, ch3, h3, hm3, hF3⟩
  have H3 : DrvIs w3 q w.heap.size An8.X2 F3 FD3 A3 b3 bs3 Fs3 mb3 n3 Ac3 cc3 Ah3 ch3 := h3
  have hap := DV.append_any H3 (An8.g2.bd (by omega)) An8.g2.ok (by omega) (by rw [An8.l2]; omega) 0 Sec.one1 Dr.fits_zero
  rw [An8.c3] at hap
  have Hap2 := hide hap
  have Hb3 := hide (Hb2.out.trans (hm3.below Hb2.out.size HF2.out))
  have HF3 : Hid (∀ k, F3 k → w.heap.size ≤ k) := hide (fun k hk => by
    rcases hF3 k hk with h | h
    · exact HF2.out k h
    · have := Hb2.out.size; omega)
  clear h3 H3 hm3 hF3 Hap hap
  go_wp2_with fail
  refine Hap2.out.mono ?_
  rintro e w4 ⟨rfl, F4, FD4, A4, b4, bs4, Fs4, mb4, n4, Ac4, cc4, Ah4, ch4, h4, hm4, hF4⟩
  have H4 : DrvIs w4 q w.heap.size An8.X3 F4 FD4 A4 b4 bs4 Fs4 mb4 n4 Ac4 cc4 Ah4 ch4 := h4
  have hdv := DV.device_any H4
  have hln := DM.len_any H4.dev 0
  rw [An8.c4] at hln
  have Hdv := hide hdv
  have Hln := hide hln
  have Hb4 := hide (Hb3.out.trans (hm4.below Hb3.out.size HF3.out))
  clear h4 H4 hm4 hF4 Hap2 hdv hln
  go_wp2_with fail
  refine Hdv.out.mono ?_
  rintro e w' ⟨rfl, rfl⟩
  go_wp2_with fail
  refine Hln.out.mono ?_
  rintro e w' ⟨rfl, rfl⟩
  go_wp2_with fail
  go_ret
  exact ⟨rfl, Hb4.out⟩

/-! ### The beginning -/
theorem results_tmp_cell_tmp {fn : Func} {p u x : Tmp} {ty : TypeId} (h : fn.results = #[.tmp u, .cell p ty, .tmp x]) (tmps : Array Value) (P : Program) (w : World) :
    (results fn tmps).run P w = ((asAddr (tmps.getD p undef)).run P w).andThen fun a w₁ => ((loadVar ty a).run P w₁).andThen fun v w₂ => .ok (.tuple #[tmps.getD u undef, v, tmps.getD x undef]) w₂ := by
  simp only [results, h]
  simp [Sem.run_bind, Result.andThen]
theorem results_drv3 {fn : Func} {p u x : Tmp} {w : World} {g : Nat} {cs : Array Value} (h : fn.results = #[.tmp u, .cell p 62, .tmp x]) (hc : cs.size = 7) (tmps : Array Value) (v v' : Value) (hp : tmps.getD p undef = .pointer (some ⟨g, 0, none⟩)) (hv : tmps.getD u undef = v) (hv' : tmps.getD x undef = v') (hg : Blk w g 62 cs) :
    (results fn tmps).run Try.prog w = .ok (.tuple #[v, .agg cs, v']) w := by
  subst hv hv'
  rw [results_tmp_cell_tmp h, hp]
  simp only [asAddr, Sem.run_pure, Result.andThen_ok, run_loadVar_row (P := Try.prog) w g 62 62 cs (0, 0) _ hg Try.underlying62 rfl (by rw [hc]; exact sizeD8)]
/-- Both have begun. -/
def Begun8 (w : World) (q d : Nat) (X : Dr) (A' : Option Addr) (c' : Nat) (Ac' : Option Addr) (cc' : Nat) (Ah' : Option Addr) (ch' : Nat) (w' : World) : Prop :=
  ∃ F G es', Two8 w' q d X F G A' c' es' Ac' cc' Ah' ch' ∧ Below w.heap.size w w' ∧ (∀ k, F k → w.heap.size ≤ k) ∧ (∀ k, G k → w.heap.size ≤ k)
theorem Begun8.make {w w1 w2 w3 w4 : World} {q d n : Nat} {size op : Int} {A' : Option Addr} {c' : Nat} {es' : List RZ} (hB : Below w.heap.size w w1) (hl : DV.Laid8 w1.heap.size w1 w2 q d (DV.Dr.made n size op)) (hr : RefIs w3 (Dv.made n size op) A' c' es' (fun k => False ∨ w2.heap.size ≤ k)) (hb3 : Below w2.heap.size w2 w3) (hm : Mods (fun k => k = w.heap.size) w3 w4) (hg : w.heap.size < w1.heap.size) :
    Begun8 w q d (DV.Dr.made n size op) A' c' none 0 none 0 w4 := by
  obtain ⟨F, FD, A, c, bs, Fs, mb, n1, Ac, cc, Ah, ch, h, hb2, hF, hs⟩ := hl
  have s2 := hb2.size
  have s3 := hb3.size
  have hlt := h.lt
  have hx : Ref8 w3 (DV.Dr.made n size op) A' c' es' none 0 none 0 (fun k => w2.heap.size ≤ k ∧ k < w3.heap.size) :=
    ⟨hr.tight.mono (fun k hk => ⟨hk.1.elim False.elim id, hk.2⟩), Evs.nil _ _ _, ⟨Nat.le_refl _, by simp [maxLen]⟩, World.ownsRow_nil _ _ _ _, fun g hg => by simp [blkOf] at hg⟩
  refine ⟨F, fun k => w2.heap.size ≤ k ∧ k < w3.heap.size, es', ⟨⟨_, _, _, _, _, _, _, _, _, _, _, (h.below hb3).mods hm (fun k hk e => by have := hF k hk; omega)⟩, hx.mods hm (fun k hk _ e => by omega), fun k hk hk2 => by have := hlt k hk; omega, fun k hk => by have := hm.size; omega⟩, ?_, fun k hk => by have := hF k hk; omega, fun k hk => by omega⟩
  exact ((hB.trans (hb2.mono hB.size)).trans (hb3.mono (by omega))).trans (hm.below (by omega) (fun k e => by omega))
set_option maxRecDepth 100000 in
set_option maxHeartbeats 1000000 in
theorem started_yes (n : Nat) (size op : Int) (w : World) (hz1 : 1 ≤ n) (hz2 : n ≤ 40) (hs1 : 1 ≤ size) (hs2 : size ≤ 64) (ho1 : 1 ≤ op) (ho2 : op ≤ 64) :
    Calls Try.prog 34 #[.int .i64 (n : Int), .int .i64 size, .int .i64 op] w fun e w' => ∃ q d A' c', e = .returned (.tuple #[.pointer (some ⟨q, 0, none⟩), agg8 (DV.Dr.made n size op) A' c' none 0 none 0, .bool true]) ∧ Begun8 w q d (DV.Dr.made n size op) A' c' none 0 none 0 w' := by
  have Hnew := hide (fun w => DV.new_any (n : Int) size op w (by omega) (by omega) hs1 hs2 ho1 ho2)
  have Href := hide (fun w => R7.new_any (n : Int) size op w (by omega) (by omega))
  have d1 : decide ((40 : Int) < (n : Int)) = false := decide_eq_false (by omega)
  have d2 : decide (40 < n) = false := decide_eq_false (by omega)
  have hB : Below w.heap.size w (w.alloc (.cells #[.slice none 0 0, .int .i64 0, .int .i64 0, .int .i64 0, .bool false, .slice none 0 0, .slice none 0 0] 62)) := (Below.refl _ w).alloc (Nat.le_refl _) _
  have kr := Blk.new w 62 #[.slice none 0 0, .int .i64 0, .int .i64 0, .int .i64 0, .bool false, .slice none 0 0, .slice none 0 0]
  clear hs1 hs2 ho1 ho2
  go_enter Try.func34, Try.ntmps34
  go_upto_region 1 with (fail)
  generalize w.alloc _ = w1 at hB kr ⊢
  have HB := hide hB
  have Hlt := hide kr.lt
  have KR := hide kr
  clear hB kr
  go_wp2_with fail
  refine (Hnew.out _).mono ?_
  rintro e w2 ⟨q, rfl, hl⟩
  rw [Int.toNat_natCast] at hl
  have Hl := hide hl
  clear hl Hnew
  go_wp2_with fail
  refine (Href.out _).mono ?_
  rintro e w3 ⟨A', c', es', rfl, hr, hb3⟩
  rw [Int.toNat_natCast] at hr ⊢
  have k2 : Blk w2 w.heap.size 62 #[.slice none 0 0, .int .i64 0, .int .i64 0, .int .i64 0, .bool false, .slice none 0 0, .slice none 0 0] := by
    obtain ⟨F, FD, A, c, bs, Fs, mb, n1, Ac, cc, Ah, ch, h, hb2, hF, hs⟩ := Hl.out
    exact (hb2.block _ Hlt.out).trans KR.out
  have k3 : Blk w3 w.heap.size 62 #[.slice none 0 0, .int .i64 0, .int .i64 0, .int .i64 0, .bool false, .slice none 0 0, .slice none 0 0] := (hb3.block _ k2.lt).trans k2
  obtain ⟨r0, r1, r2, r3, r4, r5, r6, s0, s1, s2, s3, s4, s5, s6⟩ := k3.seven
  have K3 := hide k3
  have Hr := hide hr
  have Hb3 := hide hb3
  clear k2 k3 hr hb3 Href
  go_wp2_with fail
  refine bodyPost_ret (v := .tuple #[.pointer (some ⟨q, 0, none⟩), .agg #[.slice A' (Dv.made n size op).zs.length c', .int .i64 (Dv.made n size op).size, .int .i64 (Dv.made n size op).op, .int .i64 ((Dv.made n size op).n : Int), .bool (Dv.made n size op).down, .slice none 0 0, .slice none 0 0], .bool true]) ?_ rfl ?_
  · exact results_drv3 (fn := Try.f34) (u := 6) (p := 7) (x := 8) (g := w.heap.size) rfl rfl _ _ _ rfl rfl rfl (K3.out.put7 _ _ _ _ _ _ _)
  · exact ⟨q, _, A', c', rfl, Begun8.make HB.out Hl.out Hr.out Hb3.out (Mods.put7 _ _ _ _ _ _ _ _ _ _ rfl) Hlt.out⟩
set_option maxRecDepth 100000 in
set_option maxHeartbeats 1000000 in
theorem started_no (zones size op : Int) (w : World) (h : ¬ (1 ≤ zones ∧ zones ≤ 40 ∧ 1 ≤ size ∧ size ≤ 64 ∧ 1 ≤ op ∧ op ≤ 64)) :
    Calls Try.prog 34 #[.int .i64 zones, .int .i64 size, .int .i64 op] w fun e w' => e = .returned (.tuple #[.pointer none, .agg #[.slice none 0 0, .int .i64 0, .int .i64 0, .int .i64 0, .bool false, .slice none 0 0, .slice none 0 0], .bool false]) ∧ Below w.heap.size w w' := by
  have hB : Below w.heap.size w (w.alloc (.cells #[.slice none 0 0, .int .i64 0, .int .i64 0, .int .i64 0, .bool false, .slice none 0 0, .slice none 0 0] 62)) := (Below.refl _ w).alloc (Nat.le_refl _) _
  have kr := Blk.new w 62 #[.slice none 0 0, .int .i64 0, .int .i64 0, .int .i64 0, .bool false, .slice none 0 0, .slice none 0 0]
  by_cases hn : 1 ≤ zones ∧ zones ≤ 512 ∧ 1 ≤ size ∧ size ≤ 64 ∧ 1 ≤ op ∧ op ≤ 64
  · have Hnew := hide (fun w => DV.new_any zones size op w hn.1 hn.2.1 hn.2.2.1 hn.2.2.2.1 hn.2.2.2.2.1 hn.2.2.2.2.2)
    have d1 : decide ((40 : Int) < zones) = true := decide_eq_true (by omega)
    clear h hn
    go_enter Try.func34, Try.ntmps34
    go_upto_region 1 with (fail)
    generalize w.alloc _ = w1 at hB kr ⊢
    have HB := hide hB
    have Hlt := hide kr.lt
    have KR := hide kr
    clear hB kr
    go_wp2_with fail
    refine (Hnew.out _).mono ?_
    rintro e w2 ⟨q, rfl, F, FD, A, c, bs, Fs, mb, n1, Ac, cc, Ah, ch, hd, hb2, hF, hs⟩
    have k2 : Blk w2 w.heap.size 62 #[.slice none 0 0, .int .i64 0, .int .i64 0, .int .i64 0, .bool false, .slice none 0 0, .slice none 0 0] := (hb2.block _ Hlt.out).trans KR.out
    have Hb := hide (HB.out.trans (hb2.mono HB.out.size))
    have K2 := hide k2
    obtain ⟨r0, r1, r2, r3, r4, r5, r6, s0, s1, s2, s3, s4, s5, s6⟩ := k2.seven
    clear hd hb2 hF hs k2 Hnew
    go_wp2_with fail
    refine bodyPost_ret (v := .tuple #[.pointer none, .agg #[.slice none 0 0, .int .i64 0, .int .i64 0, .int .i64 0, .bool false, .slice none 0 0, .slice none 0 0], .bool false]) ?_ rfl ?_
    · exact results_drv3 (fn := Try.f34) (u := 6) (p := 7) (x := 8) (g := w.heap.size) rfl rfl _ _ _ rfl rfl rfl (K2.out.put7 _ _ _ _ _ _ _)
    · exact ⟨rfl, Hb.out.trans ((Mods.put7 (fun k => k = w.heap.size) _ _ _ _ _ _ _ _ _ rfl).below Hb.out.size (fun k e => by omega))⟩
  · have Hnew := hide (fun w => DV.new_no zones size op w hn)
    clear h hn
    go_enter Try.func34, Try.ntmps34
    go_upto_region 1 with (fail)
    generalize w.alloc _ = w1 at hB kr ⊢
    have HB := hide hB
    have Hlt := hide kr.lt
    have KR := hide kr
    clear hB kr
    go_wp2_with fail
    refine (Hnew.out _).mono ?_
    rintro e w2 ⟨rfl, hb2⟩
    have k2 : Blk w2 w.heap.size 62 #[.slice none 0 0, .int .i64 0, .int .i64 0, .int .i64 0, .bool false, .slice none 0 0, .slice none 0 0] := (hb2.block _ Hlt.out).trans KR.out
    have Hb := hide (HB.out.trans (hb2.mono HB.out.size))
    have K2 := hide k2
    obtain ⟨r0, r1, r2, r3, r4, r5, r6, s0, s1, s2, s3, s4, s5, s6⟩ := k2.seven
    clear hb2 k2 Hnew
    go_wp2_with fail
    refine bodyPost_ret (v := .tuple #[.pointer none, .agg #[.slice none 0 0, .int .i64 0, .int .i64 0, .int .i64 0, .bool false, .slice none 0 0, .slice none 0 0], .bool false]) ?_ rfl ?_
    · exact results_drv3 (fn := Try.f34) (u := 6) (p := 7) (x := 8) (g := w.heap.size) rfl rfl _ _ _ rfl rfl rfl (K2.out.put7 _ _ _ _ _ _ _)
    · exact ⟨rfl, Hb.out.trans ((Mods.put7 (fun k => k = w.heap.size) _ _ _ _ _ _ _ _ _ rfl).below Hb.out.size (fun k e => by omega))⟩

/-! ### What a loop carries -/
/-- Between two rounds: the drive at q and the document's, which lies in block g, are X; the law's own blocks E are none of theirs. -/
def Rel8 (w : World) (E : Nat → Prop) (g q d : Nat) (X : Dr) (wr : World) : Prop :=
  ∃ F G A' c' es' Ac' cc' Ah' ch', Two8 wr q d X F G A' c' es' Ac' cc' Ah' ch' ∧ Blk wr g 62 #[.slice A' X.D.zs.length c', .int .i64 X.D.size, .int .i64 X.D.op, .int .i64 (X.D.n : Int), .bool X.D.down, .slice Ac' X.coming.length cc', .slice Ah' X.happened.length ch'] ∧ ¬ F g ∧ ¬ G g ∧ ¬ E g ∧ (∀ k, F k → w.heap.size ≤ k) ∧ (∀ k, G k → w.heap.size ≤ k) ∧ (∀ k, E k → ¬ F k ∧ ¬ G k ∧ k < wr.heap.size) ∧ Below w.heap.size w wr ∧ w.heap.size ≤ g
section
variable {w w1 w2 w3 w4 wr wa : World} {E S : Nat → Prop} {g q d : Nat} {X X' : Dr}
theorem Rel8.world (h : Rel8 w E g q d X wr) : Below w.heap.size w wr := by
  obtain ⟨F, G, A', c', es', Ac', cc', Ah', ch', hT, hg, a1, a2, a3, a4, a5, a6, a7, a8⟩ := h
  exact a7
theorem Rel8.lt (h : Rel8 w E g q d X wr) : g < wr.heap.size := by
  obtain ⟨F, G, A', c', es', Ac', cc', Ah', ch', hT, hg, a1, a2, a3, a4, a5, a6, a7, a8⟩ := h
  exact hg.lt
/-- The law's own blocks were written, or new ones. -/
theorem Rel8.own (h : Rel8 w E g q d X wr) (hm : Mods E wr w1) (hE : ∀ k, E k → w.heap.size ≤ k) : Rel8 w E g q d X w1 := by
  obtain ⟨F, G, A', c', es', Ac', cc', Ah', ch', hT, hg, a1, a2, a3, a4, a5, a6, a7, a8⟩ := h
  have hs := hm.size
  exact ⟨F, G, A', c', es', Ac', cc', Ah', ch', ⟨hT.drv.mods hm (fun k hk e => (a6 k e).1 hk), hT.ref.mods hm (fun k hk _ e => (a6 k e).2.1 hk), hT.apart, fun k hk => by have := hT.old k hk; omega⟩, hg.mods hm a3, a1, a2, a3, a4, a5, fun k hk => by have := a6 k hk; exact ⟨this.1, this.2.1, by omega⟩, a7.trans (hm.below a7.size hE), a8⟩
theorem Rel8.below (h : Rel8 w E g q d X wr) (hb : Below wr.heap.size wr w1) : Rel8 w E g q d X w1 := by
  obtain ⟨F, G, A', c', es', Ac', cc', Ah', ch', hT, hg, a1, a2, a3, a4, a5, a6, a7, a8⟩ := h
  have hs := hb.size
  have hm := Mods.of_below hb (fun _ => False)
  exact ⟨F, G, A', c', es', Ac', cc', Ah', ch', ⟨hT.drv.mods hm (fun _ _ h => h), hT.ref.below hb, hT.apart, fun k hk => by have := hT.old k hk; omega⟩, hg.mods hm (fun h => h), a1, a2, a3, a4, a5, fun k hk => by have := a6 k hk; exact ⟨this.1, this.2.1, by omega⟩, a7.trans (hb.mono a7.size), a8⟩
/-- More blocks are the law's own. -/
theorem Rel8.more {E' : Nat → Prop} (h : Rel8 w E g q d X wr) (hE : ∀ k, E' k → E k ∨ (wr.heap.size ≤ k ∧ k < w1.heap.size)) (hb : Below wr.heap.size wr w1) : Rel8 w E' g q d X w1 := by
  obtain ⟨F, G, A', c', es', Ac', cc', Ah', ch', hT, hg, a1, a2, a3, a4, a5, a6, a7, a8⟩ := h
  have hs := hb.size
  have hm := Mods.of_below hb (fun _ => False)
  have hgl := hg.lt
  refine ⟨F, G, A', c', es', Ac', cc', Ah', ch', ⟨hT.drv.mods hm (fun _ _ h => h), hT.ref.below hb, hT.apart, fun k hk => by have := hT.old k hk; omega⟩, hg.mods hm (fun h => h), a1, a2, fun he => ?_, a4, a5, fun k hk => ?_, a7.trans (hb.mono a7.size), a8⟩
  · rcases hE _ he with h2 | h2
    · exact a3 h2
    · omega
  · rcases hE k hk with h2 | h2
    · have := a6 k h2; exact ⟨this.1, this.2.1, by omega⟩
    · exact ⟨fun hf => by have := hT.lt k hf; omega, fun hf => by have := hT.old k hf; omega, h2.2⟩
/-- The beginning of a law's loop: the document's drive is laid into a block. -/
theorem Rel8.start {A' : Option Addr} {c' : Nat} {Ac' : Option Addr} {cc' : Nat} {Ah' : Option Addr} {ch' : Nat} (hB : Below w.heap.size w w1) (h : Begun8 w1 q d X A' c' Ac' cc' Ah' ch' w2) : Rel8 w (fun _ => False) w2.heap.size q d X (w2.alloc (.cells #[.slice A' X.D.zs.length c', .int .i64 X.D.size, .int .i64 X.D.op, .int .i64 (X.D.n : Int), .bool X.D.down, .slice Ac' X.coming.length cc', .slice Ah' X.happened.length ch'] 62)) := by
  obtain ⟨F, G, es', hT, hb2, hF, hG⟩ := h
  have s1 := hB.size
  have s2 := hb2.size
  have hlt := hT.lt
  have hb := (Below.refl w2.heap.size w2).alloc (Nat.le_refl _) (.cells #[.slice A' X.D.zs.length c', .int .i64 X.D.size, .int .i64 X.D.op, .int .i64 (X.D.n : Int), .bool X.D.down, .slice Ac' X.coming.length cc', .slice Ah' X.happened.length ch'] 62)
  have hm := Mods.of_below hb (fun _ => False)
  exact ⟨F, G, A', c', es', Ac', cc', Ah', ch', ⟨hT.drv.mods hm (fun _ _ h => h), hT.ref.below hb, hT.apart, fun k hk => by have := hT.old k hk; rw [World.size_alloc]; omega⟩, Blk.new _ _ _, fun hk => by have := hlt _ hk; omega, fun hk => by have := hT.old _ hk; omega, fun h => h, fun k hk => by have := hF k hk; omega, fun k hk => by have := hG k hk; omega, fun k hk => hk.elim, ((hB.trans (hb2.mono s1)).trans (hb.mono (by omega))), by omega⟩
theorem Rel8.cast (h : Rel8 w E g q d X wr) (hW : wr = w1) : Rel8 w E g q d X w1 := hW ▸ h
theorem Mods.castW (h : Mods S wa wr) (hW : wr = w1) : Mods S wa w1 := hW ▸ h
/-- The drive behind it. -/
theorem Rel8.drv (h : Rel8 w E g q d X wr) : ∃ F, DrvAt wr q d X F := by
  obtain ⟨F, G, A', c', es', Ac', cc', Ah', ch', hT, _⟩ := h
  exact ⟨F, hT.drv⟩
/-- A step of both. -/
theorem Rel8.step (h : Rel8 w E g q d X wr) {m : Nat} (hgd : X.Good m) (hm : m < 190) (hl : X.D.zs.length < 65536) (hsz : X.D.size ≤ 64) (p : OpP) (hp : p.Fits) (hK : DM.CameInts w p.o.K p.o.keep) (hkl : p.o.keep.length ≤ maxLen) :
    ∃ (A' : Option Addr) (c' : Nat) (Ac' : Option Addr) (cc' : Nat) (Ah' : Option Addr) (ch' : Nat), Blk wr g 62 #[.slice A' X.D.zs.length c', .int .i64 X.D.size, .int .i64 X.D.op, .int .i64 (X.D.n : Int), .bool X.D.down, .slice Ac' X.coming.length cc', .slice Ah' X.happened.length ch'] ∧ ∀ wa, Below wr.heap.size wr wa → Calls Try.prog 35 #[.pointer (some ⟨q, 0, none⟩), agg8 X A' c' Ac' cc' Ah' ch', .agg p.cells.toArray] wa fun e w3 =>
      ∃ (A2 : Option Addr) (c2 : Nat) (Ac2 : Option Addr) (cc2 : Nat) (Ah2 : Option Addr) (ch2 : Nat), e = .returned (.tuple #[agg8 (X.play p) A2 c2 Ac2 cc2 Ah2 ch2, .bool true]) ∧ Blk w3 g 62 #[.slice A' X.D.zs.length c', .int .i64 X.D.size, .int .i64 X.D.op, .int .i64 (X.D.n : Int), .bool X.D.down, .slice Ac' X.coming.length cc', .slice Ah' X.happened.length ch'] ∧ Rel8 w E g q d (X.play p) (put7 w3 g (.slice A2 (X.play p).D.zs.length c2) (.int .i64 (X.play p).D.size) (.int .i64 (X.play p).D.op) (.int .i64 ((X.play p).D.n : Int)) (.bool (X.play p).D.down) (.slice Ac2 (X.play p).coming.length cc2) (.slice Ah2 (X.play p).happened.length ch2)) ∧
        Mods (fun k => ¬ E k ∧ w.heap.size ≤ k) wa (put7 w3 g (.slice A2 (X.play p).D.zs.length c2) (.int .i64 (X.play p).D.size) (.int .i64 (X.play p).D.op) (.int .i64 ((X.play p).D.n : Int)) (.bool (X.play p).D.down) (.slice Ac2 (X.play p).coming.length cc2) (.slice Ah2 (X.play p).happened.length ch2)) := by
  obtain ⟨F, G, A', c', es', Ac', cc', Ah', ch', hT, hg, a1, a2, a3, a4, a5, a6, a7, a8⟩ := h
  refine ⟨A', c', Ac', cc', Ah', ch', hg, fun wa hba => ?_⟩
  have hsa := hba.size
  have hma := Mods.of_below hba (fun _ => False)
  have hTa : Two8 wa q d X F G A' c' es' Ac' cc' Ah' ch' := ⟨hT.drv.mods hma (fun _ _ h => h), hT.ref.below hba, hT.apart, fun k hk => by have := hT.old k hk; omega⟩
  have hwa : Below w.heap.size w wa := a7.trans (hba.mono a7.size)
  refine (S8.step_any hTa hgd hm hl hsz p hp (hK.mods (Mods.of_below hwa (fun _ => False)) (fun _ _ _ _ h => h)) (fun h0 b off e hf => by
    obtain ⟨b', off', e', hb', _⟩ := hK h0
    rw [e] at e'
    simp only [Option.some.injEq, Addr.mk.injEq] at e'
    have := a4 b hf
    omega) hkl).mono (fun e w3 he => ?_)
  obtain ⟨A2, c2, es2, Ac2, cc2, Ah2, ch2, he, F', G', h3, hm3, hF', hG'⟩ := he
  have hs3 := hm3.size
  have hg3 : Blk w3 g 62 #[.slice A' X.D.zs.length c', .int .i64 X.D.size, .int .i64 X.D.op, .int .i64 (X.D.n : Int), .bool X.D.down, .slice Ac' X.coming.length cc', .slice Ah' X.happened.length ch'] := (hg.mods hma (fun h => h)).mods hm3 a1
  have hmp := Mods.put7 (fun k => k = g) w3 g (.slice A2 (X.play p).D.zs.length c2) (.int .i64 (X.play p).D.size) (.int .i64 (X.play p).D.op) (.int .i64 ((X.play p).D.n : Int)) (.bool (X.play p).D.down) (.slice Ac2 (X.play p).coming.length cc2) (.slice Ah2 (X.play p).happened.length ch2) rfl
  have hlt := hT.lt
  have n1 : ¬ F' g := fun h => by
    rcases hF' g h with h | h
    · exact a1 h
    · have := hg.lt; omega
  have n2 : ¬ G' g := fun h => by
    rcases hG' g h with h | h
    · exact a2 h
    · have := hg.lt; omega
  have hall := (hm3.mono (S' := fun k => ¬ E k ∧ w.heap.size ≤ k) (fun i _ hf => ⟨fun he => (a6 i he).1 hf, a4 i hf⟩)).trans hmp (fun i _ e => ⟨e ▸ a3, e ▸ a8⟩)
  refine ⟨A2, c2, Ac2, cc2, Ah2, ch2, he, hg3, ⟨F', G', A2, c2, es2, Ac2, cc2, Ah2, ch2, ⟨h3.drv.mods hmp (fun k hk e => n1 (e ▸ hk)), h3.ref.mods hmp (fun k hk _ e => n2 (e ▸ hk)), h3.apart, fun k hk => Nat.lt_of_lt_of_le (h3.old k hk) hmp.size⟩, hg3.put7 _ _ _ _ _ _ _, n1, n2, a3, fun k hk => ?_, fun k hk => ?_, fun k hk => ⟨fun hf => ?_, fun hf => ?_, ?_⟩, ?_, a8⟩, hall⟩
  · rcases hF' k hk with h | h
    · exact a4 k h
    · have := hwa.size; omega
  · rcases hG' k hk with h | h
    · exact a5 k h
    · have := hwa.size; omega
  · rcases hF' k hf with h | h
    · exact (a6 k hk).1 h
    · have := (a6 k hk).2.2; omega
  · rcases hG' k hf with h | h
    · exact (a6 k hk).2.1 h
    · have := (a6 k hk).2.2; omega
  · have := (a6 k hk).2.2; have := hmp.size; omega
  · exact hwa.trans (hall.below hwa.size (fun k hk => hk.2))
end
end Go.Proofs.Ytdinbhanekpjoaa
