/-
  What PlanFailed says, in plain words: a zone that failed stays so; and rows of ints.
-/
import Derived.Test.YtdinbhanekpjoaaQRel8
import Derived.Deep.OwnRows
import Derived.Lib.MinMax
import Derived.ProofKit
namespace Go.Proofs.Ytdinbhanekpjoaa
open Go.RowKit
namespace S8
def intsArr (f : Nat → Int) (n : Nat) : Array Value := ((List.range n).map fun i => Value.int .i64 (f i)).toArray
theorem intsArr_size (f : Nat → Int) (n : Nat) : (intsArr f n).size = n := by simp [intsArr]
theorem intsArr_get (f : Nat → Int) (n j : Nat) (hj : j < n) : (intsArr f n)[j]? = some (.int .i64 (f j)) := by simp [intsArr, hj]
theorem intsArr_congr {f g : Nat → Int} {n : Nat} (h : ∀ i, i < n → f i = g i) : intsArr f n = intsArr g n := by
  unfold intsArr
  congr 1
  apply List.map_congr_left
  intro i hi
  rw [h i (List.mem_range.1 hi)]
theorem intsArr_made (n : Nat) : madeCells #[Value.int .i64 0] n = intsArr (fun _ => 0) n := by
  apply Array.ext_getElem?
  intro i
  by_cases hi : i < n
  · rw [intsArr_get _ _ _ hi]
    simp [madeCells, hi, Nat.mod_one]
  · rw [Array.getElem?_eq_none (by rw [size_madeCells]; omega), Array.getElem?_eq_none (by rw [intsArr_size]; omega)]
/-- The first j are written. -/
def upTo (f : Nat → Int) (j : Nat) (i : Nat) : Int := if i < j then f i else 0
theorem upTo_zero (f : Nat → Int) (n : Nat) : intsArr (fun _ => 0) n = intsArr (upTo f 0) n := intsArr_congr (fun i _ => by simp [upTo])
theorem upTo_all (f : Nat → Int) (n : Nat) : intsArr (upTo f n) n = intsArr f n := intsArr_congr (fun i hi => by simp [upTo, hi])
theorem upTo_succ (f : Nat → Int) (n j : Nat) (_hj : j < n) : (intsArr (upTo f j) n).setIfInBounds j (.int .i64 (f j)) = intsArr (upTo f (j + 1)) n := by
  apply Array.ext_getElem?
  intro i
  rw [Array.getElem?_setIfInBounds]
  by_cases hi : i < n
  · rw [intsArr_get _ _ _ hi]
    by_cases h : j = i
    · subst h
      rw [if_pos rfl, if_pos (by rw [intsArr_size]; exact hi), intsArr_get _ _ _ hi, show upTo f (j + 1) j = f j from if_pos (by omega)]
    · rw [if_neg h, intsArr_get _ _ _ hi]
      unfold upTo
      by_cases h1 : i < j
      · rw [if_pos h1, if_pos (by omega)]
      · rw [if_neg h1, if_neg (by omega)]
  · rw [if_neg (by omega), Array.getElem?_eq_none (by rw [intsArr_size]; omega), Array.getElem?_eq_none (by rw [intsArr_size]; omega)]
theorem infoI : (Try.prog.info? 3).map (fun i => (i.zero, i.size, i.bytes)) = some (some (.int .i64 0), 1, 8) := by kernel_rfl
/-- g ahead of j, f from there on. -/
def mixTo (g f : Nat → Int) (j : Nat) (i : Nat) : Int := if i < j then g i else f i
theorem mix_zero (g f : Nat → Int) (n : Nat) : intsArr (mixTo g f 0) n = intsArr f n := intsArr_congr (fun i _ => by simp [mixTo])
theorem mix_all (g f : Nat → Int) (n : Nat) : intsArr (mixTo g f n) n = intsArr g n := intsArr_congr (fun i hi => by simp [mixTo, hi])
theorem mix_at (g f : Nat → Int) (j : Nat) : mixTo g f j j = f j := by simp [mixTo]
theorem mix_succ (g f : Nat → Int) (n j : Nat) (hj : j < n) : (intsArr (mixTo g f j) n).setIfInBounds j (.int .i64 (g j)) = intsArr (mixTo g f (j + 1)) n := by
  apply Array.ext_getElem?
  intro i
  rw [Array.getElem?_setIfInBounds]
  by_cases hi : i < n
  · rw [intsArr_get _ _ _ hi]
    by_cases h : j = i
    · subst h
      rw [if_pos rfl, if_pos (by rw [intsArr_size]; exact hi), intsArr_get _ _ _ hi, show mixTo g f (j + 1) j = g j from if_pos (by omega)]
    · rw [if_neg h, intsArr_get _ _ _ hi]
      unfold mixTo
      by_cases h2 : i < j
      · rw [if_pos h2, if_pos (by omega)]
      · rw [if_neg h2, if_neg (by omega)]
  · rw [if_neg (by omega), Array.getElem?_eq_none (by rw [intsArr_size]; omega), Array.getElem?_eq_none (by rw [intsArr_size]; omega)]
end S8

/-- A zone that failed stays so. -/
def ZH (x y : Zn Sec) : Prop := 3 ≤ x.state → x.state ≤ 4 → x.state ≤ y.state ∧ y.state ≤ 4
theorem ZH.refl (x : Zn Sec) : ZH x x := fun _ h2 => ⟨Int.le_refl _, h2⟩
theorem ZH.of_eq {x y : Zn Sec} (h : y.state = x.state) : ZH x y := fun h1 h2 => by omega
theorem ZH.trans {x y z : Zn Sec} (h : ZH x y) (k : ZH y z) : ZH x z := fun h1 h2 => by
  obtain ⟨a, b⟩ := h h1 h2
  obtain ⟨c, e⟩ := k (by omega) b
  exact ⟨by omega, e⟩
theorem ZH.failed {x : Zn Sec} (h1 : 3 ≤ x.state) (h2 : x.state ≤ 4) : failedOf x.state ≠ 0 := failedOf_ne (by omega)
theorem ZH.append (x : Zn Sec) (s : Sec) : ZH x (x.append s).1 := fun h1 h2 => by
  rw [Zn.append, if_pos (ZH.failed h1 h2)]; exact ⟨Int.le_refl _, h2⟩
theorem ZH.reset (x : Zn Sec) : ZH x x.reset.1 := fun h1 h2 => by
  rw [Zn.reset, if_pos (ZH.failed h1 h2)]; exact ⟨Int.le_refl _, h2⟩
theorem ZH.finish (x : Zn Sec) : ZH x x.finish.1 := fun h1 h2 => by
  rw [Zn.finish, if_pos (ZH.failed h1 h2)]; exact ⟨Int.le_refl _, h2⟩
theorem ZH.flush (x : Zn Sec) : ZH x x.flush := .of_eq rfl
theorem ZH.crash (x : Zn Sec) (k : Int) : ZH x (x.crash k) := fun h1 h2 => by
  rw [Zn.crash_failed k h1]; exact ⟨Int.le_refl _, h2⟩
theorem ZH.fail (x : Zn Sec) (s : Int) : ZH x (x.fail s) := fun h1 h2 => by
  unfold Zn.fail
  split
  · show x.state ≤ s ∧ s ≤ 4; omega
  · exact ⟨Int.le_refl _, h2⟩
theorem ZH.change (x : Zn Sec) (f : Sec → Sec) (off : Int) : ZH x (x.change f off).1 := by
  unfold Zn.change
  split
  · exact .refl _
  · exact .of_eq rfl
namespace Dv
structure Holds (D D' : Dv) : Prop where
  len : D'.zs.length = D.zs.length
  at_ : ∀ i (h : i < D.zs.length) (h' : i < D'.zs.length), ZH D.zs[i] D'.zs[i]
theorem Holds.refl (D : Dv) : D.Holds D := ⟨rfl, fun _ _ _ => .refl _⟩
theorem Holds.of_eq {D D' : Dv} (h : D'.zs = D.zs) : D.Holds D' := ⟨by rw [h], fun i h1 h2 => by
  have : D'.zs[i] = D.zs[i] := by simp [h]
  rw [this]; exact .refl _⟩
theorem Holds.trans {D D' D'' : Dv} (h : D.Holds D') (k : D'.Holds D'') : D.Holds D'' := ⟨k.len.trans h.len, fun i h1 h2 => (h.at_ i h1 (by rw [h.len]; exact h1)).trans (k.at_ i (by rw [h.len]; exact h1) h2)⟩
theorem Holds.put {D : Dv} {k : Nat} {x z : Zn Sec} (hx : D.zs[k]? = some x) (h : ZH x z) : D.Holds (D.put k z) := ⟨by simp [Dv.put], fun i h1 h2 => by
  have h3 : k < D.zs.length := (List.getElem?_eq_some_iff.1 hx).1
  simp only [Dv.put, List.getElem_set]
  split
  · rename_i e
    subst e
    have := (List.getElem?_eq_some_iff.1 hx).2
    rw [this]; exact h
  · exact .refl _⟩
theorem Holds.mapTo (D : Dv) (f : Nat → Zn Sec → Zn Sec) (k : Nat) (h : ∀ i x, ZH x (f i x)) : D.Holds (D.mapTo f k) := ⟨by simp [Dv.mapTo], fun i h1 h2 => by
  simp only [Dv.mapTo, List.getElem_mapIdx]
  split
  · exact h _ _
  · exact .refl _⟩
theorem Holds.tick (D : Dv) : D.Holds D.tick := .of_eq rfl
theorem Holds.begin (D : Dv) (z : Int) : D.Holds (D.begin_ z).1 := by
  rcases R7.begin_fst D z with e | e <;> rw [e]
  · exact .refl D
  · exact .tick D
theorem holds_append (D : Dv) (z : Int) (s : Sec) : D.Holds (D.append z s).1 := by
  unfold append
  split
  · exact .begin D z
  · split
    · rename_i x hx
      split
      · exact .tick D
      · exact (Holds.tick D).trans (Holds.put hx (ZH.append x s))
    · exact .refl D
theorem holds_read (D : Dv) (z off : Int) : D.Holds (D.read z off).1 := by
  unfold read
  split
  · exact .begin D z
  · split
    · exact .tick D
    · exact .refl D
theorem holds_answer (D : Dv) (z : Int) (f : Zn Sec → Zn Sec × Int) (hf : ∀ x, ZH x (f x).1) : D.Holds (D.answer z f).1 := by
  unfold answer
  split
  · exact .begin D z
  · split
    · rename_i x hx
      exact (Holds.tick D).trans (Holds.put hx (hf x))
    · exact .refl D
theorem holds_flush (D : Dv) : D.Holds D.flush.1 := by
  unfold flush
  split
  · exact .refl D
  · exact (Holds.tick D).trans (Holds.mapTo _ _ _ (fun _ x => ZH.flush x))
theorem holds_revive (D : Dv) (keep : List Int) : D.Holds (D.revive keep) := by
  unfold revive
  split
  · exact (Holds.mapTo D (fun i z => z.crash (kept keep i)) D.zs.length (fun _ x => ZH.crash x _)).trans (.of_eq rfl)
  · exact .refl D
theorem holds_fail (D : Dv) (z s : Int) : D.Holds (D.fail z s).1 := by
  unfold fail
  split
  · exact .refl D
  · split
    · rename_i x hx
      exact Holds.put hx (ZH.fail x s)
    · exact .refl D
theorem holds_spoil (D : Dv) (z off : Int) (p : Sec) : D.Holds (D.spoil z off p).1 := by
  unfold spoil
  split
  · exact .refl D
  · split
    · rename_i x hx
      exact Holds.put hx (ZH.change x _ off)
    · exact .refl D
end Dv
namespace Dr
theorem holds_happen (X : Dr) (e : EvV) : X.D.Holds (X.happen e).D := by
  unfold Dr.happen
  split
  · unfold Dr.spoil
    split <;> exact Dv.holds_spoil _ _ _ _
  split
  · exact Dv.holds_fail _ _ _
  split
  · exact Dv.holds_fail _ _ _
  split
  · exact .of_eq rfl
  · exact .refl _
theorem holds_due (X : Dr) : X.D.Holds X.due.D :=
  due_ind (P := fun Y => X.D.Holds Y.D) X (.refl _) (fun Y e l hY _ _ _ => hY.trans (holds_happen ({ Y with coming := l } : Dr) e))
theorem holds_begin (X : Dr) (z : Int) : X.D.Holds (X.begin_ z).D := by
  unfold begin_
  split
  · exact holds_due X
  · exact .refl _
theorem holds_play (X : Dr) (p : OpP) : X.D.Holds (X.play p).D := by
  have hb := holds_begin X p.o.zone
  have hd := holds_due X
  unfold Dr.play
  split
  · exact hb.trans (Dv.holds_append _ _ _)
  split
  · exact hb.trans (Dv.holds_read _ _ _)
  split
  · exact hb.trans (Dv.holds_answer _ _ _ ZH.reset)
  split
  · exact hb.trans (Dv.holds_answer _ _ _ ZH.finish)
  split
  · exact hd.trans (Dv.holds_flush _)
  split
  · exact Dv.holds_revive _ _
  split
  · rw [(plan_D X p.e).1]; exact .refl _
  split
  · rw [(planN_D X p.e _).1]; exact .refl _
  · exact .refl _
/-- What PlanFailed asks for. -/
theorem state_holds {X : Dr} {m : Nat} (h : X.Good m) (p : OpP) (i : Nat) (hi : i < X.D.zs.length) (h3 : 3 ≤ X.D.stateOf (i : Int)) : X.D.stateOf (i : Int) ≤ (X.play p).D.stateOf (i : Int) := by
  have hh := holds_play X p
  have hi2 : i < (X.play p).D.zs.length := by rw [hh.len]; exact hi
  rw [Dv.stateOf_in hi] at h3 ⊢
  rw [Dv.stateOf_in hi2]
  exact (hh.at_ i hi hi2 h3 (h.ok.zs _ (List.getElem_mem hi)).2.2.1).1
end Dr
end Go.Proofs.Ytdinbhanekpjoaa

/-
  The walk of PlanFailed: it answers true, and nothing that was there has turned.
-/
namespace Go.Proofs.Ytdinbhanekpjoaa
open Go.RowKit
open S8
set_option maxRecDepth 100000 in
set_option maxHeartbeats 4000000 in
theorem failed8_walk (n : Nat) (size op : Int) (A1 : Option Addr) (cap1 : Nat) (ps : List OpP) (w : World) (h1 : CameOps8 w A1 ps) (hz1 : 1 ≤ n) (hz2 : n ≤ 40) (hs1 : 1 ≤ size) (hs2 : size ≤ 64) (ho1 : 1 ≤ op) (ho2 : op ≤ 64) (hn1 : ps.length ≤ 60) :
    Calls Try.prog 8 #[.int .i64 (n : Int), .int .i64 size, .int .i64 op, .slice A1 ps.length cap1] w fun e w' => e = .returned (.bool true) ∧ Below w.heap.size w w' := by
  have h1' := hide h1
  have Hst := hide (fun w => started_yes n size op w hz1 hz2 hs1 hs2 ho1 ho2)
  have Hfits := hide (fun p (hp : p ∈ ps) => (h1.1 p hp).2.2)
  have Hsz := hide hs2
  have d3 : decide (60 < ps.length) = false := decide_eq_false (by omega)
  have d4 : decide ((60 : Int) < (ps.length : Int)) = false := decide_eq_false (by omega)
  have Hn1 := hide hn1
  have Hz := hide (And.intro hz1 hz2)
  clear h1 hs1 hs2 ho1 ho2 hn1 hz1 hz2
  go_enter Try.func8, Try.ntmps8
  go_wp2_with fail
  refine (anchor8_any _).mono ?_
  rintro e w1 ⟨rfl, hb1⟩
  go_wp2_with fail
  refine (Hst.out _).mono ?_
  rintro e w2 ⟨q, d, A', c', rfl, hbeg⟩
  have Hb1 := hide hb1
  have Hbeg := hide hbeg
  clear hb1 hbeg Hst
  unfold agg8
  go_upto_region 4 with (fail)
  have hrel0 := hide (Rel8.start Hb1.out Hbeg.out)
  have Hgd0 := hide (Dr.Good.made n size op)
  have Hlen0 : Hid ((DV.Dr.made n size op).D.zs.length = n) := hide (by simp [DV.Dr.made, Dv.made])
  have Hsz0 : Hid ((DV.Dr.made n size op).D.size ≤ 64) := hide Hsz.out
  have Hst0 : Hid (∀ i, i < n → (0 : Int) = (DV.Dr.made n size op).D.stateOf (i : Int)) := hide (fun i hi => by
    rw [Dv.stateOf_in (by simpa [DV.Dr.made, Dv.made] using hi)]
    simp [DV.Dr.made, Dv.made, Zn.new])
  generalize DV.Dr.made n size op = X0 at hrel0 Hgd0 Hlen0 Hsz0 Hst0 ⊢
  clear Hbeg Hb1 Hsz
  generalize w2.alloc _ = wI at hrel0 ⊢
  generalize w2.heap.size = gb at hrel0 ⊢
  have hmk : ∀ w, (Instr.makeSlice 35 (.int .i64 (n : Int)) (.int .i64 (n : Int))).run Try.prog w = .ok (.slice (some ⟨w.heap.size, 0, none⟩) n n) (w.alloc (.cells (intsArr (fun _ => 0) n) 3)) := fun w => by
    have := run_make_row' (P := Try.prog) 35 3 (.int .i64 0) 8 Try.underlying35 infoI rfl .i64 .i64 n (by have := Hz.out.2; omega) (by have := Hz.out.2; omega) w
    rw [intsArr_made] at this
    exact this
  go_upto_region 7 with (fail)
  have hbm : Below wI.heap.size wI (wI.alloc (.cells (intsArr (fun _ => 0) n) 3)) := (Below.refl _ wI).alloc (Nat.le_refl _) _
  have hrel1 := hrel0.out.more (E' := fun b => b = wI.heap.size) (fun k e => .inr ⟨by omega, by rw [World.size_alloc]; omega⟩) hbm
  have hbw := Blk.new wI 3 (intsArr (fun _ => 0) n)
  have Hbwg := hide hrel0.out.world.size
  clear hrel0 hbm hmk
  generalize wI.alloc _ = wB at hrel1 hbw ⊢
  generalize wI.heap.size = bw at hrel1 hbw Hbwg ⊢
  rw [intsArr_congr Hst0.out] at hbw
  have Hrel1 := hide hrel1
  have Hbw := hide hbw
  clear hrel1 hbw Hst0
  go_wp2_with fail
  go_loopw [38] (fun i wr => ∃ k : Nat, k ≤ ps.length ∧ i = .int .i64 k ∧ Rel8 w (fun b => b = bw) gb q d (X0.playTo ps k) wr ∧ Blk wr bw 3 (intsArr (fun i => (X0.playTo ps k).D.stateOf (i : Int)) n)) (fun i _ => ps.length - (intOf i).toNat)
  case atStart => exact ⟨0, Nat.zero_le _, rfl, Hrel1.out, Hbw.out⟩
  case round =>
    obtain ⟨k, hk, rfl, hR, hbk⟩ := hrel
    have HR := hide hR
    obtain ⟨hgk, hlk⟩ := Dr.Good.playTo Hgd0.out Hfits.out k hk (by have := Hn1.out; omega)
    rw [Nat.zero_add] at hgk
    have Hsucc := hide (fun h : k < ps.length => Dr.playTo_succ X0 ps k h)
    generalize hXk : X0.playTo ps k = X at HR Hsucc hbk hgk hlk
    have HGd := hide hgk
    have Hlen : Hid (X.D.zs.length = n) := hide (hlk.len.trans Hlen0.out)
    have HszX : Hid (X.D.size ≤ 64) := hide (by rw [hlk.size]; exact Hsz0.out)
    clear hgk hlk hR hXk
    have Hbk := hide hbk
    clear hbk
    by_cases hlt : k < ps.length
    · obtain ⟨ab, off, rfl, hab, hck⟩ := (h1'.out.below HR.out.world).2 (by omega)
      have Hck := hide (hck k hlt)
      have HZ := hide (Blk.new wr 68 OpP.zero.cells.toArray)
      have hba : Below wr.heap.size wr ((wr.alloc (.cells OpP.zero.cells.toArray 68)).setRow wr.heap.size ps[k].cells.toArray) := below_setRow ((Below.refl _ wr).alloc (Nat.le_refl _) _) (Nat.le_refl _) _
      have hko := HZ.out.setRow ps[k].cells.toArray
      have hmem : ps[k] ∈ ps := List.getElem_mem hlt
      have hci := h1'.out.1 _ hmem
      obtain ⟨A', c', Ac', cc', Ah', ch', hgb, hstep⟩ := HR.out.step HGd.out (by have := Hn1.out; omega) (by have := Hlen.out; have := Hz.out.2; omega) HszX.out ps[k] hci.2.2 hci.1 hci.2.1
      clear hck hci
      go_upto_region 10 with (first | ((with_reducible refine wpList_load_mid ?g1 68 (.tmp 40) ?o1 ab (off + k * 136) ?x1 ps[k].cells ?d1 ?r1 ?u1 ?f1 ?i1 ?_); (case g1 => exact rfl); (case o1 => exact rfl); (case x1 => exact rfl); (case r1 => exact Hck.out); (case u1 => exact Try.underlying68); (case f1 => exact rfl); (case i1 => exact sizeOp8 _)) | ((with_reducible refine wpList_store_row ?g2 68 (.tmp 14) (.tmp 41) ?o2 wr.heap.size ps[k].cells.toArray ?x2 ?y2 68 OpP.zero.cells.toArray ?k2 ?s2 ?l2 ?a2 ?_); (case g2 => exact rfl); (case o2 => exact rfl); (case x2 => exact rfl); (case y2 => exact rfl); (case k2 => exact HZ.out); (case s2 => exact sizeOp8R _); (case l2 => simp [OpP.length]); (case a2 => exact OpP.all _)))
      generalize hWA : World.setRow (World.alloc wr _) _ _ = wa
      have hWA' : (wr.alloc (.cells OpP.zero.cells.toArray 68)).setRow wr.heap.size ps[k].cells.toArray = wa := hWA
      rw [hWA'] at hba hko
      clear hWA hWA' HZ Hck
      have Hba := hide hba
      have KO := hide hko
      have HS := hide (hstep wa hba)
      have Hgb := hide hgb
      obtain ⟨ob, hob⟩ : ∃ b, b = wr.heap.size := ⟨_, rfl⟩
      rw [← hob] at KO ⊢
      have Hob := hide hob
      clear hba hko hstep hgb hmem hob
      have hga := (Hba.out.block _ Hgb.out.lt).trans Hgb.out
      obtain ⟨a0, a1, a2, a3, a4, a5, a6, -⟩ := Blk.seven (show Blk wa gb 62 _ from hga)
      clear hga
      unfold agg8 at HS
      go_wp2_with ((with_reducible refine wpList_load_mid ?g2 68 (.tmp 14) ?o2 ob (0) ?x2 ps[k].cells ?d2 ?r2 ?u2 ?f2 ?i2 ?_); (case g2 => exact rfl); (case o2 => exact rfl); (case x2 => exact rfl); (case r2 => exact range_op8 _ KO.out); (case u2 => exact Try.underlying68); (case f2 => exact rfl); (case i2 => exact sizeOp8 _))
      refine HS.out.mono ?_
      rintro e w3 ⟨A2, c2, Ac2, cc2, Ah2, ch2, rfl, hg3, hrel3, hm3⟩
      clear a0 a1 a2 a3 a4 a5 a6 HS
      generalize hX' : X.play ps[k] = X' at hrel3 hm3 ⊢
      have HX' := hide hX'
      have Hr3 := hide (fun W hW => hrel3.cast (w1 := W) hW)
      have Hm3 := hide (fun W hW => Mods.castW hm3 (w1 := W) hW)
      obtain ⟨a0, a1, a2, a3, a4, a5, a6, f0, f1, f2, f3, f4, f5, f6⟩ := hg3.seven
      clear hg3 hrel3 hm3 hX'
      go_upto_region 11 with (fail)
      clear a0 a1 a2 a3 a4 a5 a6 f0 f1 f2 f3 f4 f5 f6
      generalize hW : World.setCell (World.setCell (World.setCell (World.setCell (World.setCell (World.setCell (World.setCell _ _ _) _ _) _ _) _ _) _ _) _ _) _ _ = w6
      have HR6 := hide (Hr3.out w6 hW)
      have HM6 := hide (Hm3.out w6 hW)
      clear hW Hr3 Hm3
      have hbw6 : Blk w6 bw 3 _ := Blk.mods (show Blk wa bw 3 _ from (Hba.out.block _ Hbk.out.lt).trans Hbk.out) HM6.out (fun h => h.1 rfl)
      rw [← mix_zero (fun i => X'.D.stateOf (i : Int))] at hbw6
      have Hbw6 := hide hbw6
      clear hbw6 Hbk HM6 KO Hob Hba Hgb
      go_wp2_with fail
      go_loopw [52] (fun i wq => ∃ j : Nat, j ≤ n ∧ i = .int .i64 j ∧ Blk wq bw 3 (intsArr (mixTo (fun i => X'.D.stateOf (i : Int)) (fun i => X.D.stateOf (i : Int)) j) n) ∧ Mods (fun b => b = bw) w6 wq) (fun i _ => n - (intOf i).toNat)
      case atStart => exact ⟨0, Nat.zero_le _, rfl, Hbw6.out, Mods.refl _ _⟩
      case round =>
        obtain ⟨j, hj, rfl, hbx, hmx⟩ := hrel
        have hn40 : n ≤ 40 := Hz.out.2
        have hmE := hmx
        have hrj := HR6.out.own (hmx) (fun b e => by have := Hbwg.out; omega)
        by_cases hjn : j < n
        · obtain ⟨F, FD, A, c, bs, Fs, mb, n1, Ac, cc, Ah, ch, hd⟩ := hrj.drv
          have Hdv := hide (DV.device_any hd)
          have Hsj := hide (DM.state_any hd.dev (j : Int))
          have xj : wr.cell? ⟨bw, j, none⟩ = some (.int .i64 (X.D.stateOf (j : Int))) := by rw [hbx.cell, intsArr_get _ _ _ hjn, mix_at]
          have fj := hbx.frozen j
          have dj : decide (n ≤ j) = false := decide_eq_false (by omega)
          have hholds := fun h3 : 3 ≤ X.D.stateOf (j : Int) => Dr.state_holds HGd.out ps[k] j (by have := Hlen.out; omega) h3
          rw [HX'.out] at hholds
          have Hset := hide (hbx.set_ j (.int .i64 (X'.D.stateOf (j : Int))))
          have Hmx := hide hmx
          clear hbx hmx hd hrj hmE
          go_wp2_with fail
          refine Hdv.out.mono ?_
          rintro e w' ⟨rfl, rfl⟩
          go_wp2_with fail
          refine Hsj.out.mono ?_
          rintro e w' ⟨rfl, rfl⟩
          by_cases h3 : 3 ≤ X.D.stateOf (j : Int)
          · have g1 : decide (3 ≤ X.D.stateOf (j : Int)) = true := decide_eq_true h3
            have g2 : decide (X'.D.stateOf (j : Int) < X.D.stateOf (j : Int)) = false := decide_eq_false (by have := hholds h3; omega)
            clear hholds h3 Hdv Hsj
            go_wp2_with fail
            go_roundw
            case rel => exact ⟨j + 1, by omega, by go_num, by rw [← mix_succ _ _ _ _ hjn]; exact Hset.out, Hmx.out.setCell (p := ⟨bw, j, none⟩) (.inl rfl) _⟩
            case measure => simp [intOf]; omega
          · have g1 : decide (3 ≤ X.D.stateOf (j : Int)) = false := decide_eq_false h3
            clear hholds h3 Hdv Hsj
            go_wp2_with fail
            go_roundw
            case rel => exact ⟨j + 1, by omega, by go_num, by rw [← mix_succ _ _ _ _ hjn]; exact Hset.out, Hmx.out.setCell (p := ⟨bw, j, none⟩) (.inl rfl) _⟩
            case measure => simp [intOf]; omega
        · obtain rfl : n = j := by omega
          rw [mix_all] at hbx
          have Hbx := hide hbx
          have Hrj := hide hrj
          have hk60 : ps.length ≤ 60 := Hn1.out
          clear hbx hmx hmE hrj
          go_wp2_with fail
          go_roundw
          case rel => exact ⟨k + 1, by omega, by go_num, by rw [Hsucc.out hlt, HX'.out]; exact Hrj.out, by rw [Hsucc.out hlt, HX'.out]; exact Hbx.out⟩
          case measure => simp [intOf]; omega
    · obtain rfl : k = ps.length := by omega
      have hw := HR.out.world
      go_wp2_with fail
      go_ret
      exact ⟨rfl, hw⟩
end Go.Proofs.Ytdinbhanekpjoaa

/-
  PlanFailed answers true for every number of zones, size, bound and slice of steps, and each argument reads behind the call as it read before: no condition.
-/
namespace Go.Proofs.Ytdinbhanekpjoaa.planFailed
open Go.ChangeShapes Go.WideShapes Go.ChangeAt Go.RowKit

set_option maxRecDepth 100000 in
set_option maxHeartbeats 2000000 in
theorem any (zones size op : Int) (A1 : Option Addr) (cap1 : Nat) (ps : List OpP) (w : World) (h1 : CameOps8 w A1 ps) (b1 : ps.length ≤ maxLen) :
    Calls Try.prog 8 #[.int .i64 zones, .int .i64 size, .int .i64 op, .slice A1 ps.length cap1] w fun e w' => e = .returned (.bool true) ∧ Below w.heap.size w w' := by
  unfold maxLen at b1
  by_cases hr : 1 ≤ zones ∧ zones ≤ 40 ∧ 1 ≤ size ∧ size ≤ 64 ∧ 1 ≤ op ∧ op ≤ 64
  · obtain ⟨r1, r2, r3, r4, r5, r6⟩ := hr
    obtain ⟨n, rfl⟩ := Int.eq_ofNat_of_zero_le (show 0 ≤ zones by omega)
    by_cases hlen : ps.length ≤ 60
    · exact failed8_walk n size op A1 cap1 ps w h1 (by omega) (by omega) r3 r4 r5 r6 hlen
    · have d3 : decide (60 < ps.length) = true := decide_eq_true (by omega)
      have d4 : decide ((60 : Int) < (ps.length : Int)) = true := decide_eq_true (by omega)
      have Hs := hide (fun w => started_yes n size op w (by omega) (by omega) r3 r4 r5 r6)
      clear h1 r1 r2 r3 r4 r5 r6 hlen b1
      go_enter Try.func8, Try.ntmps8
      go_wp2_with fail
      refine (anchor8_any _).mono ?_
      rintro e w1 ⟨rfl, hb1⟩
      go_wp2_with fail
      refine (Hs.out _).mono ?_
      rintro e w2 ⟨q, d, A', c', rfl, F, G, es', hT, hb2, hF, hG⟩
      clear hT hF hG
      unfold agg8
      go_wp2_with fail
      go_ret
      exact ⟨rfl, (hb1.trans (hb2.mono hb1.size)).alloc (Nat.le_trans hb1.size hb2.size) _⟩
  · have Hs := hide (fun w => started_no zones size op w hr)
    clear h1 hr b1
    go_enter Try.func8, Try.ntmps8
    go_wp2_with fail
    refine (anchor8_any _).mono ?_
    rintro e w1 ⟨rfl, hb1⟩
    go_wp2_with fail
    refine (Hs.out _).mono ?_
    rintro e w2 ⟨rfl, hb2⟩
    go_wp2_with fail
    go_ret
    exact ⟨rfl, (hb1.trans (hb2.mono hb1.size)).alloc (Nat.le_trans hb1.size hb2.size) _⟩

theorem own : ownKnob Try.prog.godebug = none := by kernel_rfl
theorem laidOut : laidOutB Try.prog = true := by kernel_rfl

set_option maxRecDepth 100000 in
theorem lifted (os : Os) (started : os.Started) (H : Type) (enc : TypeId × Value → H) :
    ReturnsInHanded {} Try.checked os 8 .any (Rows.planFailedSpec.pre6 enc Try.prog Try.f8 Rows.planFailedRow.domain false) (Rows.planFailedSpec.post enc Try.prog Try.f8 false true false false) := by
  refine returnsInHanded_of_change (C := Try.checked) own started (by kernel_rfl) Try.func8
    (ChangeSpec.witness6 (enc := enc) (C := Try.checked) false ⟨#[], #[.int .i64 0, .int .i64 0, .int .i64 0, .slice none 0 0], []⟩ 8 (by kernel_rfl) (by kernel_rfl) (by kernel_rfl) (by kernel_rfl)) ?_
  intro W base args ds gs before hval0 hW hcnd _
  have hval : ∀ (j : Nat) t v, Try.f8.params[j]? = some t → args[j]? = some v → Value.okWide Try.prog W .any base t v := hval0
  have hW' := hW
  obtain ⟨p, q, hA0, hV, rfl, hfz, hnd⟩ := hW
  have hA : DataW.TrodAll enc Try.prog W 0 (fun _ => true) true Try.f8.params.toList args.toList ds p := hA0
  rw [Try.params8] at hA hval
  obtain ⟨v0, v1, v2, v3, d0, d1, d2, d3, p0, p1, p2, p3, rfl, rfl, rfl, h0, h1, h2, h3⟩ := trodAll_four hA
  obtain ⟨rfl, rfl⟩ := trodVars_none hV
  obtain ⟨zones, rfl, rfl, rfl, wa⟩ := open_int Try.underlying3 (hval 0 3 v0 rfl rfl) h0
  obtain ⟨size, rfl, rfl, rfl, wb⟩ := open_int Try.underlying3 (hval 1 3 v1 rfl rfl) h1
  obtain ⟨op, rfl, rfl, rfl, wc⟩ := open_int Try.underlying3 (hval 2 3 v2 rfl rfl) h2
  obtain ⟨a1, len1, cap1, rfl⟩ := okWide_slice Try.underlying58 (hval 3 58 v3 rfl rfl)
  clear hA0 hval0
  have hlt1 : ∀ x ∈ p3, x.block < W.heap.size := fun x hx => hW'.lt x (by simp [hx])
  obtain ⟨hm1, ps1, rfl, hc1⟩ := ops8_came h3 rfl
  refine (any zones size op a1 cap1 ps1 W hc1 hm1).mono fun e W' ⟨he, hb⟩ => ?_
  subst he
  refine ⟨_, rfl, _, _, _, [], [] ++ [] ++ [] ++ p3, [], hW', trodAll_mk1 (shut_bool Try.underlying4 true), ?_, rfl, hb.frame _, fun h => by cases h⟩
  exact trodAll_mk4 (shut_int Try.underlying3 wa) (shut_int Try.underlying3 wb) (shut_int Try.underlying3 wc) (Below.trod laidOut (by kernel_rfl) (of_decide_eq_true (by kernel_rfl)) h3 hb hlt1)

theorem proved : Rows.PlanFailedSaid :=
  OpenClaim.holds_of_wide 8 Try.f8 rfl rfl rfl rfl rfl rfl rfl ⟨rfl, rfl, rfl, rfl, rfl⟩ rfl rfl rfl rfl rfl (by kernel_rfl) Try.func8 (by kernel_rfl)
    (of_decide_eq_true (by kernel_rfl)) (by unfold Func.isWrapper; first | (rw [if_pos (by decide +kernel)]; kernel_rfl) | (rw [if_neg (by decide +kernel)]; exact ⟨rfl, rfl⟩))
    (fun os started H enc _ => lifted os started H enc)
end Go.Proofs.Ytdinbhanekpjoaa.planFailed
