/-
  slices.Values over a slice of events: its contract.
-/
import Derived.Test.YtdinbhanekpjoaaQO
import Derived.Test.YtdinbhanekpjoaaItS
import Derived.Test.YtdinbhanekpjoaaQD
import Derived.Laws.Tables
import Derived.Test.YtdinbhanekpjoaaQRef8a
import Derived.Laws.StructEq
import Derived.Test.YtdinbhanekpjoaaReg
import Derived.CallsIn
import Derived.TacticsIn
import Derived.Deep.Quiet
import Derived.Deep.RegionHeld
import Derived.RangeFuncCalls
import Derived.Deep.QuietTactic
import Derived.BigQuiet
namespace Go.Proofs.Ytdinbhanekpjoaa.ItV
open Go.RowKit Go.Shelf

attribute [local go_sem] Oper.semAt_some

abbrev encs (zs : List EvV) (j : Fin zs.length) : Array Value := #[.agg zs[j.1].cells.toArray]
/-- The slice value .slice A n c holds the events zs, in a block below n₀. -/
def EvsIn (n₀ : Nat) (W : World) (A : Option Addr) (zs : List EvV) : Prop :=
  ∀ j (h : j < zs.length), ∃ b, A = some ⟨b, 0, none⟩ ∧ b < n₀ ∧ W.rangeAt b (j * 68) zs[j].cells
theorem EvsIn.below {n₀ : Nat} {X Y : World} (h : Below n₀ X Y) {A : Option Addr} {zs : List EvV} (hi : EvsIn n₀ X A zs) : EvsIn n₀ Y A zs := fun j hj => by
  obtain ⟨b, e, hb, hc⟩ := hi j hj
  exact ⟨b, e, hb, ItS.range_below h hb hc⟩
theorem EvsIn.of_own {w : World} {A : Option Addr} {c n₀ : Nat} {zs : List EvV} {e : TypeId} (h : w.ownsRow 0 e 68 (.slice A zs.length c) zs.length (zs.flatMap EvV.cells)) (hb : ∀ g, blkOf A = some g → g < n₀) : EvsIn n₀ w A zs := fun j hj => by
  obtain ⟨b, off, hA, -, -, hr⟩ := (Evs.of_own (G := fun _ => True) h (fun _ _ => trivial)).at_ hj
  have hoff : off = 0 := by
    rcases h.2 with ⟨h', h0⟩ | ⟨g', cap, cur, h', _⟩
    · omega
    · simp only [Value.slice.injEq] at h'
      rw [hA] at h'
      simp only [Option.some.injEq, Addr.mk.injEq] at h'
      exact h'.1.2.1
  subst hoff
  rw [Nat.zero_add] at hr
  exact ⟨b, hA, hb b (by rw [hA]; rfl), hr⟩

set_option maxRecDepth 100000 in
set_option maxHeartbeats 2000000 in
/-- slices.Values's closure, for every loop body that keeps what lay below n₀. -/
theorem values1_in (F : Fence) (n : Nat) (h8 : F.fn 96) (hro : F.round = none) (hn : 1 ≤ n) (l Bs n₀ : Nat) (A : Option Addr) (cap : Nat) (zs : List EvV) (hreach : zs.length ≤ 65536) (J Jx : List (Fin zs.length) → World → Prop)
    (hJ : ∀ s W W', J s W → Below W.heap.size W W' → J s W')
    (hY : ∀ pre x W, J pre W → pre.length < zs.length → YieldAt F (n - 1) Try.prog l (encs zs x) W fun e W' =>
      (e = .returned (.bool true) ∧ J (pre ++ [x]) W' ∧ Below n₀ W W') ∨ (e = .returned (.bool false) ∧ Jx (pre ++ [x]) W'))
    (W : World) (hn₀ : n₀ ≤ W.heap.size) (hBs : W.cell? ⟨Bs, 0, none⟩ = some (.slice A zs.length cap)) (hc : EvsIn n₀ W A zs) (h0 : J [] W) :
    CallsIn F n Try.prog 96 #[.func (.yield l) #[] #[], .pointer (some ⟨Bs, 0, none⟩)] W fun e W' => (∃ v, e = .returned v) ∧
      ((∃ ys, ys = ItS.upto zs.length zs.length ∧ J ys W') ∨ (∃ pre, (∃ k, k ≤ zs.length ∧ pre = ItS.upto zs.length k) ∧ Jx pre W')) := by
  refine callsIn_of_wp Try.func96 rfl h8 ?_ hro
  simp only [Try.ntmps96, List.size_toArray, List.length_cons, List.length_nil, Nat.reduceAdd, Nat.reduceSub, Array.replicate_succ, Array.replicate_zero, List.push_toArray, List.append_toArray, List.nil_append, List.cons_append]
  have hc' := hide hc
  have hY' := hide hY
  have hJ' := hide hJ
  clear hc hY hJ
  gi_wp2
  gi_loopw [7] (fun i wr => ∃ k : Nat, k ≤ zs.length ∧ i = .int .i64 k ∧ J (ItS.upto zs.length k) wr ∧ Below n₀ W wr)
    (fun i _ => zs.length - (intOf i).toNat)
  case atStart => exact ⟨0, Nat.zero_le _, rfl, by rw [ItS.upto_zero]; exact h0, Below.refl _ _⟩
  case round =>
    obtain ⟨k, hk, rfl, hJs, hnx⟩ := hrel
    by_cases hlt : k < zs.length
    · obtain ⟨b, rfl, hb, hcell⟩ := hc'.out k hlt
      have Hcx := hide (ItS.range_below hnx hb hcell)
      have hsz : n₀ ≤ wr.heap.size := Nat.le_trans hn₀ hnx.size
      have HZ := hide (Blk.new wr 66 EvV.zero.cells.toArray)
      have hbY : Below wr.heap.size wr ((wr.alloc (.cells EvV.zero.cells.toArray 66)).setRow wr.heap.size zs[k].cells.toArray) := below_setRow ((Below.refl _ wr).alloc (Nat.le_refl _) _) (Nat.le_refl _) _
      have hkx := HZ.out.setRow zs[k].cells.toArray
      clear hcell
      gi_upto_region 3 with (first | ((with_reducible refine ItS.wpListIn_load_mid ?g1 66 (.tmp 9) ?o1 b (k * 68) ?x1 zs[k].cells ?d1 ?r1 ?u1 ?f1 ?i1 ?_); (case g1 => exact rfl); (case o1 => exact rfl); (case x1 => exact rfl); (case r1 => exact Hcx.out); (case u1 => exact Try.underlying66); (case f1 => exact rfl); (case i1 => exact Ev.size _)) | ((with_reducible refine ItS.wpListIn_store_row ?g2 66 (.tmp 4) (.tmp 10) ?o2 wr.heap.size zs[k].cells.toArray ?x2 ?y2 66 EvV.zero.cells.toArray ?k2 ?s2 ?l2 ?a2 ?_); (case g2 => exact rfl); (case o2 => exact rfl); (case x2 => exact rfl); (case y2 => exact rfl); (case k2 => exact HZ.out); (case s2 => exact Ev.sizeR _); (case l2 => simp [EvV.length]); (case a2 => exact EvV.all _)))
      generalize hWA : World.setRow (World.alloc wr _) _ _ = wa
      have hWA' : (wr.alloc (.cells EvV.zero.cells.toArray 66)).setRow wr.heap.size zs[k].cells.toArray = wa := hWA
      rw [hWA'] at hbY hkx
      clear hWA hWA' HZ Hcx
      have hJa := hJ'.out _ _ _ hJs hbY
      have Hbn := hide (hnx.trans (hbY.mono hsz))
      have Hkx := hide hkx
      obtain ⟨fn, tmps, assign, body, hy, hR⟩ := hY'.out _ ⟨k, hlt⟩ wa hJa (by rw [ItS.upto_length hk]; exact hlt)
      dsimp only [encs] at hy
      clear hbY hkx hJa hJs hnx
      gi_wp2_with ((with_reducible refine ItS.wpListIn_load_mid ?g3 66 (.tmp 4) ?o3 wr.heap.size 0 ?x3 zs[k].cells ?d3 ?r3 ?u3 ?f3 ?i3 ?_); (case g3 => exact rfl); (case o3 => exact rfl); (case x3 => exact rfl); (case r3 => exact zs[k].range Hkx.out); (case u3 => exact Try.underlying66); (case f3 => exact rfl); (case i3 => exact Ev.size _))
      refine hR.mono ?_
      rintro e W3 (⟨rfl, hJ3, hk3⟩ | ⟨rfl, hJx3⟩)
      · gi_wp2
        go_roundw
        case rel => exact ⟨k + 1, by omega, by simp, by rw [ItS.upto_succ hlt]; exact hJ3, Hbn.out.trans hk3⟩
        case measure => simp [intOf]; omega
      · gi_wp2
        refine bodyPost_ret (results_none rfl _ _ _) rfl ?_
        exact ⟨⟨_, rfl⟩, .inr ⟨_, ⟨k + 1, by omega, (ItS.upto_succ hlt).symm⟩, hJx3⟩⟩
    · obtain rfl : k = zs.length := by omega
      gi_wp2
      go_end0
      exact ⟨⟨_, rfl⟩, .inl ⟨_, rfl, hJs⟩⟩

/-- slices.Values(s) hands back a value that goes over the indexes and what stands there: all; or the first k of them. -/
theorem values_stops (F : Fence) (n : Nat) (h8 : F.fn 96) (hro : F.round = none) (hn : 1 ≤ n) (Bs n₀ : Nat) (A : Option Addr) (cap : Nat) (zs : List EvV) (hreach : zs.length ≤ 65536) (w : World) (hBs : Bs < w.heap.size) (hn₀ : n₀ ≤ w.heap.size)
    (hc : w.cell? ⟨Bs, 0, none⟩ = some (.slice A zs.length cap)) (hI : EvsIn n₀ w A zs) :
    SeqStopsK F n Try.prog 96 #[.pointer (some ⟨Bs, 0, none⟩)] (encs zs) (Below n₀) (fun ys => ys = ItS.upto zs.length zs.length)
      (fun pre => ∃ k, k ≤ zs.length ∧ pre = ItS.upto zs.length k) zs.length w := fun l J Jx W hW hJ _ hY h0 => by
  have hc' := (hW.cell (p := ⟨Bs, 0, none⟩) hBs).trans hc
  exact values1_in F n h8 hro hn l Bs n₀ A cap zs hreach J Jx (fun s W W' hs hb => hJ s W W' none hs ⟨hb.os, hb.tape, hb.output, hb.size, fun k hk _ => hb.block k hk⟩ (fun r e => by cases e)) hY W (Nat.le_trans hn₀ hW.size) hc' (hI.below (hW.mono hn₀)) h0


set_option maxHeartbeats 400000 in
theorem values_any (A : Option Addr) (n c : Nat) (w : World) :
    Calls Try.prog 80 #[.slice A n c] w fun e w' => e = .returned (.func (.func 96) #[] #[.pointer (some ⟨w.heap.size, 0, none⟩)]) ∧ w.alloc (.cells #[.slice A n c] 118) = w' := by
  go_enter Try.func80, Try.ntmps80
  go_wp2
  go_ret
  exact ⟨rfl, rfl⟩
section
variable {w : World} {q d : Nat} {X : Dr} {F FD : Nat → Prop} {A : Option Addr} {c : Nat} {bs : List Nat} {Fs : Nat → Nat → Prop} {mb n : Nat} {Ac : Option Addr} {cc : Nat} {Ah : Option Addr} {ch : Nat}
set_option maxHeartbeats 400000 in
theorem coming_any (h : DrvIs w q d X F FD A c bs Fs mb n Ac cc Ah ch) : Calls Try.prog 38 #[.pointer (some ⟨q, 0, none⟩)] w fun e w' => e = .returned (.func (.func 96) #[] #[.pointer (some ⟨w.heap.size, 0, none⟩)]) ∧ w.alloc (.cells #[.slice Ac X.coming.length cc] 118) = w' := by
  obtain ⟨c0, c1, -⟩ := h.cells
  clear h
  go_enter Try.func38, Try.ntmps38
  go_wp2_with (go_at_call 80; refine (values_any _ _ _ _).mono ?_; rintro e w' ⟨rfl, rfl⟩)
  go_ret
  exact ⟨rfl, rfl⟩
set_option maxHeartbeats 400000 in
theorem happened_any (h : DrvIs w q d X F FD A c bs Fs mb n Ac cc Ah ch) : Calls Try.prog 39 #[.pointer (some ⟨q, 0, none⟩)] w fun e w' => e = .returned (.func (.func 96) #[] #[.pointer (some ⟨w.heap.size, 0, none⟩)]) ∧ w.alloc (.cells #[.slice Ah X.happened.length ch] 118) = w' := by
  obtain ⟨c0, c1, c2, -⟩ := h.cells
  clear h
  go_enter Try.func39, Try.ntmps39
  go_wp2_with (go_at_call 80; refine (values_any _ _ _ _).mono ?_; rintro e w' ⟨rfl, rfl⟩)
  go_ret
  exact ⟨rfl, rfl⟩
end
end Go.Proofs.Ytdinbhanekpjoaa.ItV

/-
  Zero events and sectors, built out of nothing; an operation that is wanted, in a list of operations.
-/
namespace Go.Proofs.Ytdinbhanekpjoaa
open Go.RowKit
theorem wpList_wanted {P : Program} {ops : Array Oper} {rest : List Oper} {o : Oper} {a : Act} {w : World} {Q : Exit → Act → World → Prop} (hw : Region.wanted o (yielded ops a.tmps) = true) {v : Value} (hv : (execOp a.eval o).run P w = .ok (.value v) w)
    (h : wpList P ops Q rest (a.put o.dst v) w) : wpList P ops Q (o :: rest) a w := by
  unfold wpList
  rw [if_pos hw]
  left
  unfold Oper.wp
  rw [hv]
  exact h
theorem wpList_stepG {P : Program} {ops : Array Oper} {rest : List Oper} {o : Oper} {a : Act} {w : World} {Q : Exit → Act → World → Prop} (hw : Region.wanted o (yielded ops a.tmps) = true) {v : Value} (hv : (execOp a.eval o).run P w = .ok (.value v) w)
    (h : ∀ K : Act → Prop, (∀ a, wpList P ops Q rest a w → K a) → K (a.put o.dst v)) : wpList P ops Q (o :: rest) a w :=
  wpList_wanted hw hv (h _ (fun _ h => h))
theorem run_build_ev0 (w : World) : (Instr.build 66 #[]).run Try.prog w = .ok (.agg EvV.zero.cells.toArray) w :=
  run_build w _ _ _ (by kernel_rfl)
theorem run_build_sec0 (w : World) : (Instr.build 34 #[]).run Try.prog w = .ok (.agg Sec.zero.cs.toArray) w :=
  run_build w _ _ _ (by kernel_rfl)
theorem run_field_ev0 (w : World) : (Instr.field 66 (.agg EvV.zero.cells.toArray) 4).run Try.prog w = .ok (.agg Sec.zero.cs.toArray) w := by
  kernel_rfl
theorem exec_build_ev0 {w : World} {a : Act} {o : Oper} (ho : o.op = .build 66 #[]) : (execOp a.eval o).run Try.prog w = .ok (.value (.agg EvV.zero.cells.toArray)) w := by
  unfold execOp
  simp only [ho, List.map_toArray, List.map_nil, Sem.run_bind, run_build_ev0 w, Result.andThen_ok, Sem.run_pure]
theorem exec_build_sec0 {w : World} {a : Act} {o : Oper} (ho : o.op = .build 34 #[]) : (execOp a.eval o).run Try.prog w = .ok (.value (.agg Sec.zero.cs.toArray)) w := by
  unfold execOp
  simp only [ho, List.map_toArray, List.map_nil, Sem.run_bind, run_build_sec0 w, Result.andThen_ok, Sem.run_pure]
theorem exec_field_ev0 {w : World} {a : Act} {o : Oper} {x : Operand} (ho : o.op = .field 66 x 4) (hx : a.eval x = .agg EvV.zero.cells.toArray) : (execOp a.eval o).run Try.prog w = .ok (.value (.agg Sec.zero.cs.toArray)) w := by
  unfold execOp
  simp only [ho, hx, Sem.run_bind, run_field_ev0 w, Result.andThen_ok, Sem.run_pure]
theorem exec_load_row {P : Program} {w : World} {a : Act} {o : Oper} (ty : TypeId) (x : Operand) (ho : o.op = .load ty x) (b off : Nat) (hx : a.eval x = .pointer (some ⟨b, off, none⟩)) (cs : List Value) (d : TypeDesc)
    (hr : w.rangeAt b off cs) (hu : P.underlying ty = some d) (hd : d.isRow = true) (hi : (P.info? ty).map (·.size) = some cs.length) : (execOp a.eval o).run P w = .ok (.value (.agg cs.toArray)) w := by
  simp only [execOp, ho, hx, Sem.run_bind, run_loadAt_mid w b off ty cs d hr hu hd hi, Result.andThen_ok, Sem.run_pure]
end Go.Proofs.Ytdinbhanekpjoaa

/-
  An event of the document's is equal to itself.
-/
namespace Go.Proofs.Ytdinbhanekpjoaa
open Go.RowKit
theorem eqFields_same {P : Program} {w : World} (d : Nat) (xs : Array Value) : ∀ fs : List Field, (∀ f ∈ fs, ∃ v, (part f.type xs f.offset).run P w = .ok v w ∧ (Op.equalIn d f.type v v).run P w = .ok true w) → (Op.eqFields d xs xs fs).run P w = .ok true w
  | [], _ => by simp [Op.eqFields]
  | f :: fs, h => by
    obtain ⟨v, h1, h2⟩ := h f (by simp)
    have ih := eqFields_same d xs fs (fun g hg => h g (by simp [hg]))
    unfold Op.eqFields
    split
    · simp only [Sem.run_bind, h1, h2, Result.andThen_ok, Bool.not_true, Bool.false_eq_true, if_false]
      exact ih
    · exact ih
theorem fields_e8 : (Try.prog.fieldsOf 116).toList.map (fun f => (f.type, f.offset)) = [(3, 0), (3, 1), (3, 2), (3, 3), (33, 4)] := by kernel_rfl
theorem part_int (xs : Array Value) (o : Nat) (v : Value) (h : xs[o]? = some v) (w : World) : (part 3 xs o).run Try.prog w = .ok v w := by
  simp [part, isAgg, run_underlying Try.underlying3, h]
theorem size_a64 (w : World) : (sizeOf 33).run Try.prog w = .ok 64 w := by kernel_rfl
theorem part_pat (e : EvV) (w : World) : (part 33 e.cells.toArray 4).run Try.prog w = .ok (.agg e.p.cs.toArray) w := by
  have hx : e.cells.toArray.extract 4 (4 + 64) = e.p.cs.toArray := by
    have hl := e.p.len
    simp only [EvV.cells, List.extract_toArray, List.extract_eq_take_drop]
    congr 1
    simp only [List.cons_append, List.nil_append, List.drop_succ_cons, List.drop_zero, Nat.add_sub_cancel_left]
    exact List.take_of_length_le (by rw [hl]; exact Nat.le_refl _)
  simp only [part, isAgg, Sem.run_bind, run_underlying Try.underlying33, Result.andThen_ok, Sem.run_pure, if_true, size_a64, hx]
theorem eqE (e : EvV) (w : World) : (Op.equalIn 10000 116 (.agg e.cells.toArray) (.agg e.cells.toArray)).run Try.prog w = .ok true w := by
  rw [run_equalIn_struct (P := Try.prog) w 9999 116 _ _ (by kernel_rfl) (by kernel_rfl)]
  refine eqFields_same _ _ _ (fun f hf => ?_)
  have hm : (f.type, f.offset) ∈ (Try.prog.fieldsOf 116).toList.map (fun f => (f.type, f.offset)) := List.mem_map.2 ⟨f, hf, rfl⟩
  rw [fields_e8] at hm
  have hi : ∀ (a : Int) (w : World), (Op.equalIn 9999 3 (.int .i64 a) (.int .i64 a)).run Try.prog w = .ok true w := fun a w => by
    rw [run_equalIn_int w 9998 3 .i64 .i64 _ _ Try.underlying3]
    simp
  simp only [List.mem_cons, Prod.mk.injEq, List.not_mem_nil, or_false] at hm
  rcases hm with ⟨h1, h2⟩ | ⟨h1, h2⟩ | ⟨h1, h2⟩ | ⟨h1, h2⟩ | ⟨h1, h2⟩ <;> rw [h1, h2]
  · exact ⟨_, part_int _ _ (.int .i64 e.at_) rfl w, hi _ _⟩
  · exact ⟨_, part_int _ _ (.int .i64 e.kind) rfl w, hi _ _⟩
  · exact ⟨_, part_int _ _ (.int .i64 e.zone) rfl w, hi _ _⟩
  · exact ⟨_, part_int _ _ (.int .i64 e.off) rfl w, hi _ _⟩
  · exact ⟨_, part_pat e w, run_equalIn_sec w 9997 _ _ Try.underlying33 Try.underlying5 size8 e.p⟩
/-! ### Two events: one of two answers, the same in every world -/
theorem bytes_of {P : Program} (e : TypeId) (he : P.underlying e = some (.int .u8)) (s : Sec) : ∃ f : Nat → Int, ∀ i, i < 64 → ∀ w, (part e s.cs.toArray (i * 1)).run P w = .ok (.int .u8 (f i)) w := by
  have pt : ∀ i, ∃ b : Int, i < 64 → ∀ w, (part e s.cs.toArray (i * 1)).run P w = .ok (.int .u8 b) w := fun i => by
    by_cases hi : i < 64
    · obtain ⟨b, hb⟩ := ZD.byte_at s i hi
      have hi2 : i < s.cs.length := by rw [s.len]; exact hi
      have hb' : s.cs[i] = .int .u8 b := by rw [List.getElem?_eq_getElem hi2] at hb; exact Option.some.inj hb
      exact ⟨b, fun _ w => by simp [part, isAgg, run_underlying he, hb', hi2]⟩
    · exact ⟨0, fun h => absurd h hi⟩
  exact ⟨fun i => Classical.choose (pt i), fun i hi w => Classical.choose_spec (pt i) hi w⟩
theorem run_equalIn_sec_any {P : Program} (k : Nat) (t e : TypeId) (ht : P.underlying t = some (.array 64 e)) (he : P.underlying e = some (.int .u8)) (hsz : ∀ w, (sizeOf e).run P w = .ok 1 w) (s u : Sec) :
    ∃ b, ∀ w, (Op.equalIn (k + 2) t (.agg s.cs.toArray) (.agg u.cs.toArray)).run P w = .ok b w := by
  obtain ⟨f, hf⟩ := bytes_of (P := P) e he s
  obtain ⟨g, hg⟩ := bytes_of (P := P) e he u
  refine ⟨(List.range' 0 64 1).all fun i => f i == g i, fun w => ?_⟩
  rw [Op.equalIn]
  simp only [Sem.run_bind, run_underlying ht, Result.andThen_ok, hsz, Std.Legacy.Range.forIn_eq_forIn_range', Std.Legacy.Range.size, Nat.sub_zero, Nat.add_sub_cancel, Nat.div_one]
  have hl : ∀ i ∈ List.range' 0 64 1, i < 64 := fun i hi => by simpa using (List.mem_range'_1.1 hi).2
  generalize List.range' 0 64 1 = l at hl ⊢
  induction l with
  | nil => simp
  | cons i l ih =>
    have hi : i < 64 := hl i (by simp)
    have pe : (Op.equalIn (k + 1) e (.int .u8 (f i)) (.int .u8 (g i))).run P w = .ok (f i == g i) w := by
      rw [run_equalIn_int w k e .u8 .u8 _ _ he]
    have ih' := ih (fun j hj => hl j (by simp [hj]))
    simp only [List.forIn_cons, Sem.run_bind, hf i hi w, hg i hi w, pe, Result.andThen_ok, List.all_cons]
    cases hbc : (f i == g i) with
    | true =>
      simp only [Bool.not_true, Bool.false_eq_true, if_false, Sem.run_pure, Result.andThen_ok, Bool.true_and]
      exact ih'
    | false =>
      simp only [Bool.not_false, if_true, Sem.run_pure, Result.andThen_ok, Bool.false_and]
theorem eqFields_any {P : Program} (d : Nat) (xs ys : Array Value) : ∀ fs : List Field, (∀ f ∈ fs, ∃ v u b, ∀ w, (part f.type xs f.offset).run P w = .ok v w ∧ (part f.type ys f.offset).run P w = .ok u w ∧ (Op.equalIn d f.type v u).run P w = .ok b w) → ∃ b, ∀ w, (Op.eqFields d xs ys fs).run P w = .ok b w
  | [], _ => ⟨true, fun w => by simp [Op.eqFields]⟩
  | f :: fs, h => by
    obtain ⟨v, u, b, h1⟩ := h f (by simp)
    obtain ⟨r, ih⟩ := eqFields_any d xs ys fs (fun g hg => h g (by simp [hg]))
    unfold Op.eqFields
    split
    · cases b with
      | true => exact ⟨r, fun w => by simp only [Sem.run_bind, (h1 w).1, (h1 w).2.1, (h1 w).2.2, Result.andThen_ok]; simpa using ih w⟩
      | false => exact ⟨false, fun w => by simp only [Sem.run_bind, (h1 w).1, (h1 w).2.1, (h1 w).2.2, Result.andThen_ok]; simp⟩
    · exact ⟨r, ih⟩
theorem eqE_any (e f : EvV) : ∃ b, ∀ w, (Op.equalIn 10000 116 (.agg e.cells.toArray) (.agg f.cells.toArray)).run Try.prog w = .ok b w := by
  have key := eqFields_any (P := Try.prog) 9999 e.cells.toArray f.cells.toArray (Try.prog.fieldsOf 116).toList (fun g hg => by
    have hm : (g.type, g.offset) ∈ (Try.prog.fieldsOf 116).toList.map (fun f => (f.type, f.offset)) := List.mem_map.2 ⟨g, hg, rfl⟩
    rw [fields_e8] at hm
    have hi : ∀ (a b : Int) (w : World), (Op.equalIn 9999 3 (.int .i64 a) (.int .i64 b)).run Try.prog w = .ok (a == b) w := fun a b w => by
      rw [run_equalIn_int w 9998 3 .i64 .i64 _ _ Try.underlying3]
    simp only [List.mem_cons, Prod.mk.injEq, List.not_mem_nil, or_false] at hm
    rcases hm with ⟨h1, h2⟩ | ⟨h1, h2⟩ | ⟨h1, h2⟩ | ⟨h1, h2⟩ | ⟨h1, h2⟩ <;> rw [h1, h2]
    · exact ⟨_, _, _, fun w => ⟨part_int _ _ (.int .i64 e.at_) rfl w, part_int _ _ (.int .i64 f.at_) rfl w, hi _ _ _⟩⟩
    · exact ⟨_, _, _, fun w => ⟨part_int _ _ (.int .i64 e.kind) rfl w, part_int _ _ (.int .i64 f.kind) rfl w, hi _ _ _⟩⟩
    · exact ⟨_, _, _, fun w => ⟨part_int _ _ (.int .i64 e.zone) rfl w, part_int _ _ (.int .i64 f.zone) rfl w, hi _ _ _⟩⟩
    · exact ⟨_, _, _, fun w => ⟨part_int _ _ (.int .i64 e.off) rfl w, part_int _ _ (.int .i64 f.off) rfl w, hi _ _ _⟩⟩
    · obtain ⟨b, hb⟩ := run_equalIn_sec_any (P := Try.prog) 9997 33 5 Try.underlying33 Try.underlying5 size8 e.p f.p
      exact ⟨_, _, b, fun w => ⟨part_pat e w, part_pat f w, hb w⟩⟩)
  obtain ⟨b, hb⟩ := key
  refine ⟨b, fun w => ?_⟩
  rw [run_equalIn_struct (P := Try.prog) w 9999 116 _ _ (by kernel_rfl) (by kernel_rfl)]
  exact hb w
/-- They differ: an answer, and 'no' where they are one. -/
theorem neqE_any (e f : EvV) : ∃ b : Bool, (e = f → b = false) ∧ ∀ w, (binOp .neq 116 (.agg e.cells.toArray) (.agg f.cells.toArray)).run Try.prog w = .ok (.bool b) w := by
  obtain ⟨b, hb⟩ := eqE_any e f
  refine ⟨!b, fun h => ?_, fun w => ?_⟩
  · subst h
    have h1 := hb default
    rw [eqE] at h1
    simp only [Result.ok.injEq, and_true] at h1
    rw [← h1]
    rfl
  · rw [run_neq_struct, hb]
    rfl
theorem exec_neq_any {b : Bool} {e f : EvV} (hb : ∀ w, (binOp .neq 116 (.agg e.cells.toArray) (.agg f.cells.toArray)).run Try.prog w = .ok (.bool b) w) {a : Act} {o : Oper} {w : World} (x y : Operand) (ho : o.op = .binOp .neq 116 x y 116) (hx : a.eval x = .agg e.cells.toArray) (hy : a.eval y = .agg f.cells.toArray) : (execOp a.eval o).run Try.prog w = .ok (.value (.bool b)) w := by
  simp [execOp, ho, hx, hy, hb, run_eqGuard_agg, Try.eqGuardType116]
end Go.Proofs.Ytdinbhanekpjoaa

/-
  A region that draws its order and holds no call of a function of the text's own, inside a fence, in a round too: what is shown of it by the plain walk holds there. Nothing here speaks of the program.
-/
namespace Go.Proofs.Ytdinbhanekpjoaa.InRound
open Go

section
variable {P : Program} {F : Fence} {n : Nat}
/-- An operation that calls nothing and defers nothing. -/
def plainB (o : Oper) : Bool :=
  match o.op with
  | .move _ | .assign _ | .pick _ _ _ | .load _ _ | .store _ _ _ | .binOp _ _ _ _ _ | .unOp _ _ _ | .fieldAddr _ _ _ | .indexAddr _ _ _ => true
  | .call { callee := .builtin .len, args := _, argTypes := _ } => true
  | _ => false

theorem run_value {s : Sem Value} {w : World} : (∃ v w', (do pure (Next.value (← s)) : Sem Next).run P w = .ok (.value v) w') ∨ (∃ h w', (do pure (Next.value (← s)) : Sem Next).run P w = .halt h w') := by
  cases hs : s.run P w with
  | ok v w' => exact .inl ⟨v, w', by simp [hs, Result.andThen]⟩
  | halt h w' => exact .inr ⟨h, w', by simp [hs, Result.andThen]⟩
theorem run_unit {s : Sem Unit} {w : World} : (∃ w', (do s; pure Next.skip : Sem Next).run P w = .ok .skip w') ∨ (∃ h w', (do s; pure Next.skip : Sem Next).run P w = .halt h w') := by
  cases hs : s.run P w with
  | ok v w' => exact .inl ⟨w', by simp [hs, Result.andThen]⟩
  | halt h w' => exact .inr ⟨h, w', by simp [hs, Result.andThen]⟩

/-- What a plain operation comes to. -/
theorem exec_plain {o : Oper} (h : plainB o = true) (ρ : Operand → Value) (w : World) :
    (∃ v w', (execOp ρ o).run P w = .ok (.value v) w') ∨ (∃ w', (execOp ρ o).run P w = .ok .skip w') ∨ (∃ h w', (execOp ρ o).run P w = .halt h w') := by
  unfold plainB at h
  have up : ∀ {s : Sem Next}, ((∃ v w', s.run P w = .ok (.value v) w') ∨ (∃ h w', s.run P w = .halt h w')) → (∃ v w', s.run P w = .ok (.value v) w') ∨ (∃ w', s.run P w = .ok .skip w') ∨ (∃ h w', s.run P w = .halt h w') := fun h => h.imp id .inr
  unfold execOp
  split at h <;> rename_i ho <;> simp only [ho]
  · exact .inl ⟨_, _, rfl⟩
  · exact .inl ⟨_, _, rfl⟩
  · exact up (by
      rename_i c a b
      cases hs : (asBool (ρ c)).run P w with
      | ok v w' => exact .inl ⟨if v = true then ρ a else ρ b, w', by simp only [Sem.run_bind, hs, Result.andThen, Sem.run_pure]⟩
      | halt h w' => exact .inr ⟨h, w', by simp only [Sem.run_bind, hs, Result.andThen]⟩)
  · exact up run_value
  · exact .inr (run_unit.imp id id)
  · exact up run_value
  · exact up run_value
  · exact up run_value
  · exact up run_value
  · simp only [resolve, invoke, builtin, Sem.run_bind, Sem.run_pure, Result.andThen_ok]
    generalize Sem.run P (Builtin.len_ _ _ _) w = r
    cases r with
    | ok v w' => exact .inl ⟨v, w', rfl⟩
    | halt h w' => exact .inr (.inr ⟨h, w', rfl⟩)
  · cases h

theorem about_plain {o : Oper} (h : plainB o = true) (w : World) (ρ : Operand → Value) : ∀ f, o.about P w ρ = some f → F.fn f := by
  intro f hf
  unfold plainB at h
  split at h <;> rename_i ho <;> simp [Oper.about, ho, resolve, Target.leads] at hf h
theorem noDefer_plain {o : Oper} (h : plainB o = true) : ∀ c, o.op ≠ .defer c := by
  intro c hc
  unfold plainB at h
  rw [hc] at h
  cases h

/-- Only the way on. -/
def Only (Q : Exit → Act → World → Prop) : Exit → Act → World → Prop
  | .normal, a, w => Q .normal a w
  | _, _, _ => False
theorem Only.normal {Q : Exit → Act → World → Prop} {a : Act} {w : World} (h : Q .normal a w) : Only Q .normal a w := h

theorem wpIn_of_wp {o : Oper} (h : plainB o = true) {a : Act} {w : World} {K K' : Act → World → Prop} {Q : Exit → Act → World → Prop} (hK : ∀ a w, K a w → K' a w) (hw : o.wp P a w K (Only Q)) : o.wpIn F n P a w K' Q := by
  refine ⟨about_plain h w a.eval, ?_⟩
  rw [Oper.semAt_eq _ _ _ (noDefer_plain h)]
  unfold Oper.wp at hw
  rcases exec_plain (P := P) h a.eval w with ⟨v, w', e⟩ | ⟨w', e⟩ | ⟨x, w', e⟩
  · rw [e] at hw ⊢; exact hK _ _ hw
  · rw [e] at hw ⊢; exact hK _ _ hw
  · rw [e] at hw ⊢
    cases x <;> first | exact hw.elim | (simp only [Oper.upon, Only] at hw)

theorem opsIn_of_ops {ops : Array Oper} {Q : Exit → Act → World → Prop} (hp : ops.all plainB = true) : ∀ (l : List Nat) (a : Act) (w : World), wpOps P ops (Only Q) l a w → wpOpsIn F n P ops Q l a w
  | [], _, _, h => h
  | i :: rest, a, w, h => by
    unfold wpOps at h
    unfold wpOpsIn
    cases ho : ops[i]? with
    | none => simp only [ho] at h ⊢; exact opsIn_of_ops hp rest a w h
    | some o =>
      simp only [ho] at h ⊢
      have hpo : plainB o = true := (Array.all_eq_true_iff_forall_mem.1 hp) o (Array.mem_of_getElem? ho)
      by_cases hw : Region.wanted o (yielded ops a.tmps) = true
      · rw [if_pos hw] at h ⊢
        rcases h with h | ⟨_, a', w', h⟩
        · exact wpIn_of_wp hpo (fun a w h => opsIn_of_ops hp rest a w h) h
        · exact h.elim
      · rw [if_neg hw] at h ⊢
        exact ⟨about_plain hpo w a.eval, opsIn_of_ops hp rest _ w h⟩

end
end Go.Proofs.Ytdinbhanekpjoaa.InRound
namespace Go.Proofs.Ytdinbhanekpjoaa.Reg
open Go
section
variable {P : Program} {Q : Exit → Act → World → Prop}
theorem any_of_reads {a : Act} {w : World} {l : List Oper} (S : World → Prop) (n m : Nat) (_hf : P.follows .mixedOrders = true) (hB : readsB l.toArray n m = true)
    (hQ : ∀ c a d v w, Q (.panic c) (a.put d v) w → Q (.panic c) a w) (hS : S { w with drawn := w.drawn + 1 })
    (h : wpReads P l.toArray S (fun a' => wpTail P l.toArray Q S m (l.drop n) n a' { w with drawn := w.drawn + 1 }) (l.take n) a) : wpAny P .any l.toArray Q l.toArray.size (Array.replicate l.toArray.size false) a { w with drawn := w.drawn + 1 } := by
  simp only [readsB, Bool.and_eq_true, decide_eq_true_eq] at hB
  obtain ⟨⟨⟨⟨⟨hsel, hnm⟩, hm⟩, hs⟩, hc⟩, hlex⟩ := hB
  have hml : m < l.length := by simpa using hm
  have htl : (l.take n).length = n := by simp; omega
  have hdl : (l.drop n).length = l.toArray.size - n := by simp
  have inv0 : HeadInv .any l.toArray m (Array.replicate l.toArray.size false) :=
    ⟨by simp, fun j oj _ hl => (by rw [getD_replicate_false] at hl; cases hl), fun t _ ht => getD_in (by simpa using ht) (getD_replicate_false _ _)⟩
  refine (wpAny_of_R (S := S) (m := m) _ _ _ _ ?_)
  have H := wpAnyR_lex (md := .any) (n := n) (g := l.toArray.size - n) hsel hs hc hm hnm hQ hS (T := fun a' => wpTail P l.toArray Q S m (l.drop n) n a' { w with drawn := w.drawn + 1 })
    (fun listed a hb ht => by rw [← hdl] at hb ⊢; exact wpAnyR_seq (l.drop n) n listed a _ (fun j => by simp [List.getElem?_drop]) hb ht)
    (l.take n) 0 (Array.replicate l.toArray.size false) a (fun j hj => by
      have hj' : j < n := by rw [htl] at hj; exact hj
      simp [hj']) (by simpa using htl) inv0 (by rw [htl]; exact hlex) h
  have e : (l.take n).length + (l.toArray.size - n) = l.toArray.size := by rw [htl]; simp; omega
  rwa [e] at H

end
end Go.Proofs.Ytdinbhanekpjoaa.Reg
namespace Go.Proofs.Ytdinbhanekpjoaa.InRound
open Go
section
variable {P : Program} {F : Fence} {n : Nat}
/-- A guarded operation that reads whole cells. -/
theorem wpReads_loadG {ops : Array Oper} {S : World → Prop} {T : Act → Prop} {a : Act} {o : Oper} {rest : List Oper} (hw : Region.wanted o (yielded ops a.tmps) = true) (ty : TypeId) (x : Operand) (ho : o.op = .load ty x) (b off : Nat) (hx : a.eval x = .pointer (some ⟨b, off, none⟩)) (cs : List Value) (d : TypeDesc)
    (hS : ∀ w, S w → w.rangeAt b off cs) (hu : P.underlying ty = some d) (hd : d.isRow = true) (hi : (P.info? ty).map (·.size) = some cs.length) (h : ∀ K : Act → Prop, (∀ a, Reg.wpReads P ops S T rest a → K a) → K (a.put o.dst (.agg cs.toArray))) : Reg.wpReads P ops S T (o :: rest) a :=
  Reg.wpReads_stepG hw (fun w hw => by
    simp only [execOp, ho, hx, Sem.run_bind, run_loadAt_mid w b off ty cs d (hS w hw) hu hd hi, Result.andThen_ok, Sem.run_pure]) h
/-- A guarded operation that is not wanted. -/
theorem wpReads_skip {ops : Array Oper} {S : World → Prop} {T : Act → Prop} {a : Act} {o : Oper} {rest : List Oper} (hw : Region.wanted o (yielded ops a.tmps) = false) (h : ∀ K : Act → Prop, (∀ a, Reg.wpReads P ops S T rest a → K a) → K (a.put o.dst undef)) : Reg.wpReads P ops S T (o :: rest) a :=
  ⟨undef, .inr ⟨hw, rfl⟩, h _ (fun _ h => h)⟩
/-- Reg.wp_region_reads in a fence. -/
theorem wpIn_region_reads {id : Nat} {a : Act} {w : World} {l : List Oper} {Q : Exit → Act → World → Prop} (S : World → Prop) (k m : Nat) (hf : P.follows .mixedOrders = true) (hp : l.toArray.all plainB = true) (hB : Reg.readsB l.toArray k m = true) (hS : S w.drew)
    (h : Reg.wpReads P l.toArray S (fun a' => Reg.wpTail P l.toArray (Only Q) S m (l.drop k) k a' w.drew) (l.take k) a) : (Code.region id l.toArray true).wpIn F n P Q a w := by
  refine wpIn_region_draw fun t => ?_
  simp only [Region.schedule, hf, Bool.true_or, if_true]
  exact opsIn_of_ops hp _ _ _ (wpAny_sound l.toArray.size t _ a _ (Reg.any_of_reads S k m hf hB (fun _ _ _ _ _ h => h.elim) hS h))
end
end Go.Proofs.Ytdinbhanekpjoaa.InRound

/-
  A region that draws its order and may hold calls, in a round of a loop over an iterator under the wide fence: what the laws of plain walks show of it holds there. Nothing here speaks of the program.
-/
namespace Go.Proofs.Ytdinbhanekpjoaa.InRound
open Go

section
variable {P : Program} {n l : Nat}
/-- An operation that defers nothing. -/
def lastsB (o : Oper) : Bool :=
  match o.op with
  | .defer _ => false
  | _ => true
theorem noDefer_lasts {o : Oper} (h : lastsB o = true) : ∀ c, o.op ≠ .defer c := by
  intro c hc
  unfold lastsB at h
  rw [hc] at h
  cases h
theorem rowsIn_of_rows {row : String} {args : Array Value} {w : World} {R : Value → World → Prop} (h : Rows P row args w R) : RowsIn (Fence.wide.inRound l) n P row args w R :=
  fun c cs _ => let ⟨v, w', r, s⟩ := h c cs; ⟨v, w', r, stepsIn_wide.2 s⟩
theorem uponIn_of_upon {o : Oper} {a : Act} {K K' : Act → World → Prop} {Q : Exit → Act → World → Prop} (hK : ∀ a w, K a w → K' a w) {r : Result Next} (h : o.upon P a K (Only Q) r) : o.uponIn (Fence.wide.inRound l) n P a K' Q r := by
  cases r with
  | ok x w' =>
    cases x with
    | value v => exact hK _ _ h
    | skip => exact hK _ _ h
    | defer d => exact hK _ _ h
    | enter f args =>
      refine ⟨fun h => by simp [Fence.wide] at h, ?_⟩
      refine CallsIn.inRound l (CallsIn.mono ((callsIn_wide (n := n - 1)).2 h) ?_)
      rintro e w'' h'
      cases e with
      | returned v => exact hK _ _ h'
      | panicked c => exact h'.elim
      | outgrown => obtain ⟨_, _, h⟩ := h'; exact h.elim
    | row row args =>
      refine ⟨fun h => by simp [Fence.wide] at h, ?_⟩
      exact RowsIn.mono (rowsIn_of_rows h) (fun v w h => hK _ _ h)
    | round _ _ _ _ _ => exact h.elim
    | _ => exact h.elim
  | halt x w' =>
    cases x <;> exact h.elim
theorem wpIn_of_wp2 {o : Oper} (h : lastsB o = true) {a : Act} {w : World} {K K' : Act → World → Prop} {Q : Exit → Act → World → Prop} (hK : ∀ a w, K a w → K' a w) (hw : o.wp P a w K (Only Q)) : o.wpIn (Fence.wide.inRound l) n P a w K' Q := by
  refine ⟨fun _ _ => trivial, ?_⟩
  rw [Oper.semAt_eq _ _ _ (noDefer_lasts h)]
  exact uponIn_of_upon hK hw
theorem opsIn_of_ops2 {ops : Array Oper} {Q : Exit → Act → World → Prop} (hp : ops.all lastsB = true) : ∀ (l' : List Nat) (a : Act) (w : World), wpOps P ops (Only Q) l' a w → wpOpsIn (Fence.wide.inRound l) n P ops Q l' a w
  | [], _, _, h => h
  | i :: rest, a, w, h => by
    unfold wpOps at h
    unfold wpOpsIn
    cases ho : ops[i]? with
    | none => simp only [ho] at h ⊢; exact opsIn_of_ops2 hp rest a w h
    | some o =>
      simp only [ho] at h ⊢
      have hpo : lastsB o = true := (Array.all_eq_true_iff_forall_mem.1 hp) o (Array.mem_of_getElem? ho)
      by_cases hw : Region.wanted o (yielded ops a.tmps) = true
      · rw [if_pos hw] at h ⊢
        rcases h with h | ⟨_, a', w', h⟩
        · exact wpIn_of_wp2 hpo (fun a w h => opsIn_of_ops2 hp rest a w h) h
        · exact h.elim
      · rw [if_neg hw] at h ⊢
        exact ⟨fun _ _ => trivial, opsIn_of_ops2 hp rest _ w h⟩
/-- Whatever order is picked. -/
theorem wpIn_region_any {id : Nat} {a : Act} {w : World} {ops : Array Oper} {Q : Exit → Act → World → Prop} (hf : P.follows .mixedOrders = true) (hp : ops.all lastsB = true)
    (h : wpAny P .any ops (Only Q) ops.size (Array.replicate ops.size false) a { w with drawn := w.drawn + 1 }) : (Code.region id ops true).wpIn (Fence.wide.inRound l) n P Q a w := by
  refine wpIn_region_draw fun t => ?_
  simp only [Region.schedule, hf, Bool.true_or, if_true]
  exact opsIn_of_ops2 hp _ _ _ (wpAny_sound ops.size t _ a _ h)
/-- Operations and callees that only read: one walk. -/
theorem wpIn_region_quiet {id : Nat} {Q : Exit → Act → World → Prop} {a : Act} {w : World} {l' : List Oper} (hm : P.follows .mixedOrders = true) (hp : l'.toArray.all lastsB = true) (hB : Region.lexB .any l'.toArray = true)
    (h : wpQuiet P l'.toArray (fun w' => ∃ n, w' = w.drewN n) (fun a' => ∀ w', (∃ n, w' = w.drewN n) → Q .normal a' w') l' a) : (Code.region id l'.toArray true).wpIn (Fence.wide.inRound l) n P Q a w := by
  simp only [Region.lexB, Bool.and_eq_true] at hB
  refine wpIn_region_any hm hp (wpAny_of_quiet (C := fun w' => ∃ n, w' = w.drewN n) (Q' := Only Q) (Q := fun a' => ∀ w', (∃ n, w' = w.drewN n) → Q .normal a' w') (fun _ w' hw' h => h w' hw') _ _ _ _ ⟨1, rfl⟩ ?_)
  have := wpAnyQ_lex (C := fun w' => ∃ n, w' = w.drewN n) (md := .any) hB.1 l' 0 (Array.replicate l'.toArray.size false) a (by simp) (by simpa using hB.2) h
  simpa using this
/-- Under a condition that every step keeps. -/
theorem wpIn_region_held {S : World → Prop} {id : Nat} {a : Act} {w : World} {ops : Array Oper} {Q : Exit → Act → World → Prop} (hm : P.follows .mixedOrders = true) (hp : ops.all lastsB = true) (hS : S w.drew)
    (h : S w.drew → wpAnyH P .any ops (Only Q) S ops.size (Array.replicate ops.size false) a w.drew) : (Code.region id ops true).wpIn (Fence.wide.inRound l) n P Q a w :=
  wpIn_region_any hm hp (wpAny_of_held _ _ _ _ (h hS))
end
end Go.Proofs.Ytdinbhanekpjoaa.InRound

/-
  same (revetmentlaw08): it answers true where the drive and the document's are one plain drive.
-/
namespace Go.Proofs.Ytdinbhanekpjoaa
open Go.RowKit Go.Shelf

attribute [local go_sem] Oper.semAt_some
namespace Same8
/-- The activation between two rounds. -/
def loopFrame (q d b0 b1 : Nat) (A' : Option Addr) (c' n k : Nat) (Ds : List Nat) (v : Nat → Value) : Act := { tmps := #[.pointer (some ⟨q, 0, none⟩), v 1, v 2, .pointer (some ⟨b0, 0, none⟩), .pointer (some ⟨b1, 0, none⟩), .pointer (some ⟨d, 0, none⟩), v 6, v 7, v 8, v 9, v 10, v 11, v 12, v 13, v 14, v 15, v 16, v 17, v 18, v 19, v 20, v 21, v 22, v 23, v 24, v 25, v 26, v 27, v 28, v 29, v 30, v 31, v 32, v 33, v 34, v 35, v 36, v 37, v 38, v 39, v 40, .slice A' n c', .int .i64 (n : Int), .int .i64 (k : Int), v 44, v 45, v 46, v 47, v 48, v 49, v 50, v 51, v 52, v 53, v 54, v 55, v 56, v 57, v 58, v 59, v 60, v 61, v 62, v 63, v 64, v 65, v 66, v 67, v 68, v 69, v 70, v 71, v 72, v 73, v 74, v 75, v 76, v 77, v 78, v 79, v 80, v 81, v 82, v 83, v 84, v 85, v 86, v 87, v 88, v 89, v 90, v 91, v 92, v 93, v 94, v 95, v 96, v 97, v 98, v 99, v 100, v 101, v 102, v 103, v 104, v 105, v 106, v 107, v 108, v 109, v 110, v 111, v 112, v 113, v 114, v 115, v 116, v 117, v 118, v 119, v 120, v 121, v 122, v 123, v 124, v 125, v 126, v 127, v 128, v 129, v 130, v 131, v 132, v 133, v 134], defers := Ds.map ItS.mark }
/-- The activations of the inner loops' bodies. -/
def rowFrame (b0 b1 gz i g9 : Nat) (v : Nat → Value) : Act := { tmps := #[v 0, v 1, v 2, .pointer (some ⟨b0, 0, none⟩), .pointer (some ⟨b1, 0, none⟩), v 5, v 6, .pointer (some ⟨gz, 0, none⟩), .int .i64 (i : Int), .pointer (some ⟨g9, 0, none⟩), v 10, v 11, v 12, v 13, v 14, v 15, v 16, v 17, v 18, v 19, v 20, v 21, v 22, v 23, v 24, v 25, v 26, v 27, v 28, v 29, v 30, v 31, v 32, v 33, v 34, v 35, v 36, v 37, v 38, v 39, v 40, v 41, v 42, v 43, v 44, v 45, v 46, v 47, v 48, v 49, v 50, v 51, v 52, v 53, v 54, v 55, v 56, v 57, v 58, v 59, v 60, v 61, v 62, v 63, v 64, v 65, v 66, v 67, v 68, v 69, v 70, v 71, v 72, v 73, v 74, v 75, v 76, v 77, v 78, v 79, v 80, v 81, v 82, v 83, v 84, v 85, v 86, v 87, v 88, v 89, v 90, v 91, v 92, v 93, v 94, v 95, v 96, v 97, v 98, v 99, v 100, v 101, v 102, v 103, v 104, v 105, v 106, v 107, v 108, v 109, v 110, v 111, v 112, v 113, v 114, v 115, v 116, v 117, v 118, v 119, v 120, v 121, v 122, v 123, v 124, v 125, v 126, v 127, v 128, v 129, v 130, v 131, v 132, v 133, v 134], defers := [] }
def comingFrame (b0 b1 gn g9 : Nat) (v : Nat → Value) : Act := { tmps := #[v 0, v 1, v 2, .pointer (some ⟨b0, 0, none⟩), .pointer (some ⟨b1, 0, none⟩), v 5, v 6, v 7, v 8, v 9, .pointer (some ⟨gn, 0, none⟩), v 11, .pointer (some ⟨g9, 0, none⟩), v 13, v 14, v 15, v 16, v 17, v 18, v 19, v 20, v 21, v 22, v 23, v 24, v 25, v 26, v 27, v 28, v 29, v 30, v 31, v 32, v 33, v 34, v 35, v 36, v 37, v 38, v 39, v 40, v 41, v 42, v 43, v 44, v 45, v 46, v 47, v 48, v 49, v 50, v 51, v 52, v 53, v 54, v 55, v 56, v 57, v 58, v 59, v 60, v 61, v 62, v 63, v 64, v 65, v 66, v 67, v 68, v 69, v 70, v 71, v 72, v 73, v 74, v 75, v 76, v 77, v 78, v 79, v 80, v 81, v 82, v 83, v 84, v 85, v 86, v 87, v 88, v 89, v 90, v 91, v 92, v 93, v 94, v 95, v 96, v 97, v 98, v 99, v 100, v 101, v 102, v 103, v 104, v 105, v 106, v 107, v 108, v 109, v 110, v 111, v 112, v 113, v 114, v 115, v 116, v 117, v 118, v 119, v 120, v 121, v 122, v 123, v 124, v 125, v 126, v 127, v 128, v 129, v 130, v 131, v 132, v 133, v 134], defers := [] }
def happenedFrame (b0 b1 gn g9 : Nat) (v : Nat → Value) : Act := { tmps := #[v 0, v 1, v 2, .pointer (some ⟨b0, 0, none⟩), .pointer (some ⟨b1, 0, none⟩), v 5, v 6, v 7, v 8, v 9, v 10, .pointer (some ⟨gn, 0, none⟩), v 12, .pointer (some ⟨g9, 0, none⟩), v 14, v 15, v 16, v 17, v 18, v 19, v 20, v 21, v 22, v 23, v 24, v 25, v 26, v 27, v 28, v 29, v 30, v 31, v 32, v 33, v 34, v 35, v 36, v 37, v 38, v 39, v 40, v 41, v 42, v 43, v 44, v 45, v 46, v 47, v 48, v 49, v 50, v 51, v 52, v 53, v 54, v 55, v 56, v 57, v 58, v 59, v 60, v 61, v 62, v 63, v 64, v 65, v 66, v 67, v 68, v 69, v 70, v 71, v 72, v 73, v 74, v 75, v 76, v 77, v 78, v 79, v 80, v 81, v 82, v 83, v 84, v 85, v 86, v 87, v 88, v 89, v 90, v 91, v 92, v 93, v 94, v 95, v 96, v 97, v 98, v 99, v 100, v 101, v 102, v 103, v 104, v 105, v 106, v 107, v 108, v 109, v 110, v 111, v 112, v 113, v 114, v 115, v 116, v 117, v 118, v 119, v 120, v 121, v 122, v 123, v 124, v 125, v 126, v 127, v 128, v 129, v 130, v 131, v 132, v 133, v 134], defers := [] }
theorem keepsFrom_then {B : Nat} {W Wq : World} (h : Below W.heap.size W Wq) {p : Addr} (hp : p.block < B) (u : Value) : KeepsFrom B W (Wq.setCell p u) :=
  ⟨by have := h.size; simpa [World.setCell] using this, fun k o hB hk _ => (Below.heap_setCell _ p u k (by omega)).trans ((h.block k (Array.getElem?_eq_some_iff.1 hk).1).trans hk)⟩
section
variable {w : World} {q d : Nat} {X : Dr} {F G : Nat → Prop} {A' : Option Addr} {c' : Nat} {es : List RZ} {Ac' : Option Addr} {cc' : Nat} {Ah' : Option Addr} {ch' : Nat}
set_option maxRecDepth 100000 in
set_option maxHeartbeats 8000000 in
theorem same8_any (h : Two8 w q d X F G A' c' es Ac' cc' Ah' ch') (hl : X.D.zs.length ≤ 64) (hL : ∀ x ∈ X.D.zs, x.L.length < 65536) (hc : X.happened.length + X.coming.length < 65536) :
    Calls Try.prog 43 #[.pointer (some ⟨q, 0, none⟩), agg8 X A' c' Ac' cc' Ah' ch'] w fun e w' => e = .returned (.bool true) ∧ Below w.heap.size w w' := by
  obtain ⟨FD, A, c, bs, Fs, mb, nn, Ac, cc, Ah, ch, hd⟩ := h.drv
  have Hd0 := hide hd
  have Hr0 := hide h.ref
  have Hold := hide h.old
  have Hl := hide hl
  have HL := hide hL
  have Hc := hide hc
  clear h hl hL hc hd
  unfold agg8
  refine ItS.calls_of_wp_marks Try.func43 rfl ?_
  simp only [Try.ntmps43, List.size_toArray, List.length_cons, List.length_nil, Nat.reduceAdd, Nat.reduceSub, Array.replicate_succ, Array.replicate_zero, List.push_toArray, List.append_toArray, List.nil_append, List.cons_append]
  go_upto_region 1 with (fail)
  have hB : Below w.heap.size w ((w.alloc (.cells #[.slice A' X.D.zs.length c', .int .i64 X.D.size, .int .i64 X.D.op, .int .i64 (X.D.n : Int), .bool X.D.down, .slice Ac' X.coming.length cc', .slice Ah' X.happened.length ch'] 62)).alloc (.cells #[.bool false] 4)) := ((Below.refl _ w).alloc (Nat.le_refl _) _).alloc (by simp) _
  have k0 := (Blk.new w 62 #[.slice A' X.D.zs.length c', .int .i64 X.D.size, .int .i64 X.D.op, .int .i64 (X.D.n : Int), .bool X.D.down, .slice Ac' X.coming.length cc', .slice Ah' X.happened.length ch']).alloc (.cells #[.bool false] 4)
  have k1 := Blk.new (w.alloc (.cells #[.slice A' X.D.zs.length c', .int .i64 X.D.size, .int .i64 X.D.op, .int .i64 (X.D.n : Int), .bool X.D.down, .slice Ac' X.coming.length cc', .slice Ah' X.happened.length ch'] 62)) 4 #[.bool false]
  rw [World.size_alloc] at k1
  generalize (w.alloc (.cells #[.slice A' X.D.zs.length c', .int .i64 X.D.size, .int .i64 X.D.op, .int .i64 (X.D.n : Int), .bool X.D.down, .slice Ac' X.coming.length cc', .slice Ah' X.happened.length ch'] 62)).alloc (.cells #[.bool false] 4) = W2 at hB k0 k1 ⊢
  have hd2 := Hd0.out.below hB
  have Hdev := hide (DV.device_any hd2)
  have Hz1 := hide (fun q => DM.zones_any (hd2.dev.drewN q))
  have Hz3 := hide (fun q => DM.count_any (hd2.dev.drewN q))
  have Hz4 := hide (fun q => DM.down_any (hd2.dev.drewN q))
  obtain ⟨s0, s1, s2, s3, s4, s5, s6, -⟩ := k0.seven
  have HB := hide hB
  have K0 := hide k0
  have K1 := hide k1
  clear hd2 hB k0 k1
  go_wp2_with fail
  refine Hdev.out.mono ?_
  rintro e w' ⟨rfl, rfl⟩
  go_upto_region 2 with (fail)
  go_quiet (first | (go_at_call 66; exact DM.quiet Hz1.out _) | (go_at_call 26; exact DM.quiet Hz3.out _) | (go_at_call 20; exact DM.quiet Hz4.out _))
  have HB3 := hide (HB.out.trans (((Mods.refl (fun _ => False) W2).drewN nq |>.below (Nat.le_refl _) (fun _ h => h.elim)).mono HB.out.size))
  have K03 : Hid (Blk (W2.drewN nq) w.heap.size 62 #[.slice A' X.D.zs.length c', .int .i64 X.D.size, .int .i64 X.D.op, .int .i64 (X.D.n : Int), .bool X.D.down, .slice Ac' X.coming.length cc', .slice Ah' X.happened.length ch']) := hide K0.out
  have K13 : Hid (Blk (W2.drewN nq) (w.heap.size + 1) 4 #[.bool false]) := hide K1.out
  clear s0 s1 s2 s3 s4 s5 s6 Hz1 Hz3 Hz4 K0 K1 HB Hdev
  generalize W2.drewN nq = W3 at HB3 K03 K13 ⊢
  have Hd3 := hide (Hd0.out.below HB3.out)
  have Hr3 := hide (Hr0.out.below HB3.out)
  obtain ⟨s0, s1, s2, s3, s4, s5, s6, -⟩ := K03.out.seven
  have hb01 : w.heap.size + 1 < W3.heap.size := K13.out.lt
  obtain ⟨b0, hb0⟩ : ∃ b, b = w.heap.size := ⟨_, rfl⟩
  obtain ⟨b1, hb1⟩ : ∃ b, b = w.heap.size + 1 := ⟨_, rfl⟩
  rw [← hb1] at K13 hb01 ⊢
  rw [← hb0] at K03 s0 s1 s2 s3 s4 s5 s6 ⊢
  have Hb1 := hide hb1
  have Hb0 := hide hb0
  have Hb01 := hide hb01
  clear hb1 hb0 hb01
  go_wp2_with fail
  rename_i hK
  refine wp_loop (fun a wr => ∃ (k : Nat) (Ds : List Nat), a = loopFrame q d b0 b1 A' c' X.D.zs.length k Ds (fun i => a.tmps.getD i undef) ∧ k ≤ X.D.zs.length ∧ Below W3.heap.size W3 wr ∧ (∀ D ∈ Ds, wr.heap[D]? = some (.deferred (some [])) ∧ W3.heap.size ≤ D) ∧ Ds.Nodup)
    (fun a _ => X.D.zs.length - (intOf (a.tmps.getD 43 undef)).toNat) ⟨0, [], rfl, Nat.zero_le _, Below.refl _ _, fun D hD => absurd hD (by simp), List.nodup_nil⟩ ?_
  rintro a wr ⟨k, Ds, ha, hk, hbr, hDs, hnd⟩
  generalize (fun i => a.tmps.getD i undef) = v at ha
  subst ha
  unfold loopFrame
  have Hbr := hide hbr
  have HDs := hide (And.intro hDs hnd)
  have hl64 := Hl.out
  clear hDs hnd
  by_cases hlt : k < X.D.zs.length
  · obtain ⟨g, rfl, hlc, hgl, hk', hez, x0, x1, x2, x3⟩ := (Hr3.out.ref.below hbr).at_ hlt
    have Hez := hide hez
    have hLk := HL.out _ (List.getElem_mem hlt)
    clear hez hbr hK
    go_upto_region 7 with (fail)
    have kz := Blk.new wr 93 #[.slice es[k].a X.D.zs[k].L.length es[k].c, .int .i64 (X.D.zs[k].safe : Int), .int .i64 X.D.zs[k].state, .bool X.D.zs[k].fin]
    have hbz : Below wr.heap.size wr (wr.alloc (.cells #[.slice es[k].a X.D.zs[k].L.length es[k].c, .int .i64 (X.D.zs[k].safe : Int), .int .i64 X.D.zs[k].state, .bool X.D.zs[k].fin] 93)) := (Below.refl _ wr).alloc (Nat.le_refl _) _
    generalize wr.alloc (.cells #[.slice es[k].a X.D.zs[k].L.length es[k].c, .int .i64 (X.D.zs[k].safe : Int), .int .i64 X.D.zs[k].state, .bool X.D.zs[k].fin] 93) = wz at kz hbz ⊢
    have hdz := ((Hd3.out.dev.below Hbr.out).below hbz)
    have Hq1 := hide (fun q => DM.state_any (hdz.drewN q) (k : Int))
    have Hq2 := hide (fun q => DM.len_any (hdz.drewN q) (k : Int))
    rw [Dv.stateOf_in hlt] at Hq1
    rw [Dv.lenOf_in hlt] at Hq2
    obtain ⟨z0, z1, z2, z3, -⟩ := kz.four
    have Hbz := hide hbz
    have Kz := hide kz
    clear hbz kz hdz x0 x1 x2 x3
    go_quiet (first | (go_at_call 17; exact DM.quiet Hq1.out _) | (go_at_call 21; exact DM.quiet Hq2.out _))
    have Kz4 : Hid (Blk (wz.drewN nq) wr.heap.size 93 #[.slice es[k].a X.D.zs[k].L.length es[k].c, .int .i64 (X.D.zs[k].safe : Int), .int .i64 X.D.zs[k].state, .bool X.D.zs[k].fin]) := hide Kz.out
    have Hb4 := hide (Hbz.out.trans (((Mods.refl (fun _ => False) wz).drewN nq |>.below (Nat.le_refl _) (fun _ h => h.elim)).mono Hbz.out.size))
    clear z0 z1 z2 z3 Hq1 Hq2 Hbz Kz
    generalize wz.drewN nq = w4 at Kz4 Hb4 ⊢
    have hWr : W3.heap.size ≤ wr.heap.size := Hbr.out.size
    have Hlook := hide (ItS.look_in (Hd3.out.dev.below (Hbr.out.trans (Hb4.out.mono Hbr.out.size))) k hlt wr.heap.size (fun b hb => by have := Hd3.out.dev.lt b hb; omega))
    have HWr := hide hWr
    clear hWr
    go_wp2_with fail
    refine Hlook.out.mono ?_
    rintro e w6 ⟨zA, zc, rfl, hw6, hsecs⟩
    have k6 := Blk.new w4 47 #[.slice zA X.D.zs[k].L.length zc]
    have hb6 : Below w4.heap.size w4 (w4.alloc (.cells #[.slice zA X.D.zs[k].L.length zc] 47)) := (Below.refl _ w4).alloc (Nat.le_refl _) _
    rw [hw6] at k6 hb6
    have hse6 := hsecs.below (hb6.mono Hb4.out.size)
    have kz6 : Blk w6 wr.heap.size 93 _ := (hb6.block _ Kz4.out.lt).trans Kz4.out
    have hbw6 := Hb4.out.trans (hb6.mono Hb4.out.size)
    have hrow6 : wr.ownsRow 0 33 64 (.slice es[k].a X.D.zs[k].L.length es[k].c) X.D.zs[k].L.length (X.D.zs[k].L.flatMap Sec.cs) := by
      have := (Hr3.out.ref.row _ (List.getElem_mem hk')).mods' Hbr.out
      rw [Hez.out] at this
      exact this
    have hrin : ∀ b, (Value.slice es[k].a X.D.zs[k].L.length es[k].c).ownBlock = some b → b < wr.heap.size := fun b hb => by
      rw [← Hez.out] at hb
      have h1 := Hold.out b (Hr3.out.ref.inG.2 _ (List.getElem_mem hk') b hb)
      have h2 := HWr.out
      have h3 := HB3.out.size
      omega
    have Hrf := hide (ItS.Secs.of_own' hrow6 hrin)
    have Hse := hide hse6
    have Kz6 := hide kz6
    have K6 := hide k6
    have Hb6 := hide hbw6
    clear hsecs hw6 k6 hb6 hse6 kz6 hbw6 hrow6 hrin Hlook Kz4 Hb4
    go_wp2_with fail
    rename_i hK2
    refine (wpIn_wide (n := 9)).1 (wpIn_rangeFunc_ownH rfl (by omega) rfl trivial (fun _ _ => rfl) (encs := ItS.encs X.D.zs[k].L) (Kp := Below wr.heap.size) (ItS.all_stops Fence.wide 8 trivial rfl (by omega) _ wr.heap.size zA zc X.D.zs[k].L (by omega) w6 K6.out.lt Hb6.out.size (K6.out.cell 0) Hse.out) belowK_t (belowK_b Hb6.out.size) (Below.refl _ _) (fun _ => rfl)
      (fun _ W => Blk W wr.heap.size 93 #[.slice es[k].a X.D.zs[k].L.length es[k].c, .int .i64 (X.D.zs[k].safe : Int), .int .i64 X.D.zs[k].state, .bool X.D.zs[k].fin] ∧ Below wr.heap.size wr W ∧ w6.heap.size ≤ W.heap.size)
      (fun _ _ _ => False) ?_ (fun _ => ItS.ownFrom_pure _ _) ⟨Kz6.out, Hb6.out, Nat.le_refl _⟩
      (fun x a' W => ∃ g9, a' = rowFrame b0 b1 wr.heap.size x.1 g9 (fun i => a'.tmps.getD i undef) ∧ Blk W g9 34 X.D.zs[k].L[x.1].cs.toArray) ?_ ?_ ?_ ?_ ?_)
    · exact (ItS.ownFrom_blk _ _ _ _).and ((ownFrom_below (Nat.le_refl _) Hb6.out.size).and (fun _ W W' row h hg _ => Nat.le_trans h hg.size))
    · rintro x a' _ W W' row ⟨g9, e, hb⟩ hg hr
      exact ⟨g9, e, ItS.ownFrom_blk (β := Unit) _ _ _ _ () W W' row hb hg hr⟩
    · rintro l pre x W K ⟨i2, iB, iS⟩ hKa
      have HI := hide (And.intro i2 iB)
      have HiS := hide iS
      have HKa := hide hKa
      have HZ := hide (Blk.new W 34 Sec.zero.cs.toArray)
      clear i2 iB iS hKa hK2
      dsimp only [ItS.encs]
      gi_wp2_with ((with_reducible refine ItS.wpListIn_store_row ?g2 34 (.tmp 9) (.tmp 67) ?o2 W.heap.size X.D.zs[k].L[x.1].cs.toArray ?x2 ?y2 34 Sec.zero.cs.toArray ?k2 ?s2 ?l2 ?a2 ?_); (case g2 => exact rfl); (case o2 => exact rfl); (case x2 => exact rfl); (case y2 => exact rfl); (case k2 => exact HZ.out); (case s2 => exact ZD.sizeRow _); (case l2 => simp [Sec.len]); (case a2 => exact sec_all _))
      have hbY : Below W.heap.size W ((W.alloc (.cells Sec.zero.cs.toArray 34)).setRow W.heap.size X.D.zs[k].L[x.1].cs.toArray) := below_setRow ((Below.refl _ W).alloc (Nat.le_refl _) _) (Nat.le_refl _) _
      have hWs : wr.heap.size ≤ W.heap.size := HI.out.2.size
      refine HKa.out _ _ ⟨hbY.size, fun j o _ hj _ => (hbY.block j (Array.getElem?_eq_some_iff.1 hj).1).trans hj⟩ (hbY.mono hWs) ⟨(hbY.block _ HI.out.1.lt).trans HI.out.1, HI.out.2.trans (hbY.mono hWs), Nat.le_trans HiS.out hbY.size⟩ ⟨W.heap.size, rfl, HZ.out.setRow _⟩
    · rintro l pre ⟨i, hi⟩ a' W hl hrec ⟨i2, iB, iS⟩ ⟨g9, ha, hk9⟩ hpre
      dsimp only at hi hk9 ha ⊢
      generalize (fun j => a'.tmps.getD j undef) = v at ha
      subst ha
      unfold rowFrame
      obtain ⟨bA, hAe, hbA, hrg⟩ := Hrf.out.below iB i hi
      rw [hAe] at i2
      obtain ⟨q0, -⟩ := i2.four
      have r9 : W.rangeAt g9 0 X.D.zs[k].L[i].cs := ZD.range_blk _ hk9
      have hge : decide (X.D.zs[k].L.length ≤ i) = false := by simp [hi]
      have hge2 : decide ((X.D.zs[k].L.length : Int) ≤ (i : Int)) = false := decide_eq_false (by omega)
      have qA := eqA X.D.zs[k].L[i]
      clear hK2
      gi_upto_region 12 with (fail)
      refine InRound.wpIn_region_reads (fun w' => w'.cell? ⟨wr.heap.size, 0, none⟩ = some (.slice (some ⟨bA, 0, none⟩) X.D.zs[k].L.length es[k].c) ∧ w'.rangeAt g9 0 X.D.zs[k].L[i].cs ∧ w'.rangeAt bA (i * 64) X.D.zs[k].L[i].cs) 13 13 (by decide +kernel) (by decide +kernel) (by decide +kernel) ⟨q0, r9, hrg⟩ ?_
      simp only [List.take_succ_cons, List.take_zero, List.drop_succ_cons, List.drop_zero]
      iterate 13
        first
        | (refine InRound.wpReads_loadG (by first | rfl | decide) 34 (.tmp 9) rfl g9 0 rfl X.D.zs[k].L[i].cs _ (fun w' h => h.2.1) Try.underlying34 rfl (ZD.sizeSec _) (fun K hK => ?_)
           go_simp
           refine hK _ ?_
           clear hK K)
        | (refine InRound.wpReads_loadG (by first | rfl | decide) 33 (.tmp 78) rfl bA (i * 64) rfl X.D.zs[k].L[i].cs _ (fun w' h => h.2.2) Try.underlying33 rfl (R7.sizeAx _) (fun K hK => ?_)
           go_simp
           refine hK _ ?_
           clear hK K)
        | (apply Reg.wpReads_stepG (by first | rfl | decide)
           · intro w' hS
             obtain ⟨x0, x1, x2⟩ := hS
             go_simp
             first | done | rfl
           intro K hK
           go_simp
           refine hK _ ?_
           clear hK K)
      refine Reg.wpReads_nil ?_
      refine Reg.wpTail_list _ _ _ _ (by omega) ?_
      have hbd : Below W.heap.size W W.drew := (Below.refl _ W).drew
      go_wp2_with fail
      try refine InRound.Only.normal ?_
      gi_wp2
      have hWs : wr.heap.size ≤ W.heap.size := iB.size
      refine ⟨⟨hbd.size, fun j o _ hj _ => (hbd.block j (Array.getElem?_eq_some_iff.1 hj).1).trans hj⟩, hbd.mono hWs, ?_, iB.trans (hbd.mono hWs), Nat.le_trans iS hbd.size⟩
      rw [hAe]
      exact (hbd.block _ i2.lt).trans i2
    · rintro D' xs W hD rfl ⟨i2, iB, iS⟩ hdef
      refine hK2 _ _ ?_
      clear hK2
      have h63 : wr.heap.size ≤ w6.heap.size := Hb6.out.size
      have hin : ∀ D2 ∈ Ds, D2 < wr.heap.size := fun D2 hD2 => (Array.getElem?_eq_some_iff.1 (HDs.out.1 D2 hD2).1).1
      have Hinv : Hid (Below W3.heap.size W3 W ∧ (∀ D ∈ D' :: Ds, W.heap[D]? = some (.deferred (some [])) ∧ W3.heap.size ≤ D) ∧ (D' :: Ds).Nodup) := hide ⟨Hbr.out.trans (iB.mono HWr.out), fun D2 hD2 => by
        rcases List.mem_cons.1 hD2 with rfl | hm
        · exact ⟨hdef, by have := HWr.out; omega⟩
        · exact ⟨(iB.block D2 (hin D2 hm)).trans (HDs.out.1 D2 hm).1, (HDs.out.1 D2 hm).2⟩, List.nodup_cons.2 ⟨fun hm => by
          have := hin D' hm; omega, HDs.out.2⟩⟩
      go_wp2_with fail
      exact ⟨⟨k + 1, D' :: Ds, by first | rfl | (simp only [Int.natCast_add]; rfl), by omega, Hinv.out⟩, by simp [intOf]; omega⟩
    · exact fun _ _ _ _ _ _ h _ => h.elim
  · obtain rfl : k = X.D.zs.length := by omega
    have HBW := hide (HB3.out.trans (hbr.mono HB3.out.size))
    have Hd5 := hide (Hd3.out.below hbr)
    have Hr5 := hide (Hr3.out.below hbr)
    have k05 : Blk wr b0 62 #[.slice A' X.D.zs.length c', .int .i64 X.D.size, .int .i64 X.D.op, .int .i64 (X.D.n : Int), .bool X.D.down, .slice Ac' X.coming.length cc', .slice Ah' X.happened.length ch'] := (hbr.block _ K03.out.lt).trans K03.out
    have K05 := hide k05
    have K15 : Hid (Blk wr b1 4 #[.bool false]) := hide ((hbr.block _ K13.out.lt).trans K13.out)
    have hev := ItV.EvsIn.of_own Hd5.out.com (fun g hg => Hd5.out.lt g (Hd5.out.inF.2.2.2.1 g hg))
    have hevh := ItV.EvsIn.of_own Hd5.out.hap (fun g hg => Hd5.out.lt g (Hd5.out.inF.2.2.2.2 g hg))
    have hrc := Hr5.out.com
    have hrh := Evs.of_own Hr5.out.hap (fun g hg => Hr5.out.hapG g (by rwa [own_blkOf] at hg))
    have HEv := hide hev
    have HEvh := hide hevh
    have HRc := hide hrc
    have HRh := hide hrh
    have HWr := hide hbr.size
    clear hbr hev hevh hrc hrh k05 s0 s1 s2 s3 s4 s5 s6 Hd3 Hr3 K03 K13
    go_upto_region 16 with (fail)
    have hb7 : Below wr.heap.size wr ((wr.alloc (.cells #[.int .i64 0] 3)).alloc (.cells #[.int .i64 0] 3)) := ((Below.refl _ wr).alloc (Nat.le_refl _) _).alloc (by simp) _
    have k10 := (Blk.new wr 3 #[.int .i64 0]).alloc (.cells #[.int .i64 0] 3)
    have k11 := Blk.new (wr.alloc (.cells #[.int .i64 0] 3)) 3 #[.int .i64 0]
    rw [World.size_alloc] at k11
    generalize (wr.alloc (.cells #[.int .i64 0] 3)).alloc (.cells #[.int .i64 0] 3) = w7 at hb7 k10 k11 ⊢
    have Hcom := hide (ItV.coming_any (Hd5.out.below hb7))
    have K10 := hide k10
    have K11 := hide k11
    have Hb7 := hide hb7
    clear k10 k11 hb7
    go_wp2_with fail
    refine Hcom.out.mono ?_
    rintro e w8 ⟨rfl, hw8⟩
    have k8 := Blk.new w7 118 #[.slice Ac X.coming.length cc]
    have hb8 : Below w7.heap.size w7 (w7.alloc (.cells #[.slice Ac X.coming.length cc] 118)) := (Below.refl _ w7).alloc (Nat.le_refl _) _
    rw [hw8] at k8 hb8
    have K108 : Hid (Blk w8 wr.heap.size 3 #[.int .i64 0]) := hide ((hb8.block _ K10.out.lt).trans K10.out)
    have K118 : Hid (Blk w8 (wr.heap.size + 1) 3 #[.int .i64 0]) := hide ((hb8.block _ K11.out.lt).trans K11.out)
    have Hb8 := hide (Hb7.out.trans (hb8.mono Hb7.out.size))
    have K8 := hide k8
    have hlc : X.coming.length ≤ 65536 := by have := Hc.out; omega
    have Hlc := hide hlc
    clear hw8 k8 hb8 hlc Hcom K10 K11 Hb7
    go_wp2_with fail
    rename_i hK2
    refine (wpIn_wide (n := 9)).1 (wpIn_rangeFunc_ownH rfl (by omega) rfl trivial (fun _ _ => rfl) (encs := ItV.encs X.coming) (Kp := Below wr.heap.size) (ItV.values_stops Fence.wide 8 trivial rfl (by omega) _ wr.heap.size Ac cc X.coming Hlc.out w8 K8.out.lt Hb8.out.size (K8.out.cell 0) (HEv.out.below Hb8.out)) belowK_t (belowK_b Hb8.out.size) (Below.refl _ _) (fun _ => rfl)
      (fun pre W => Blk W wr.heap.size 3 #[.int .i64 (pre.length : Int)] ∧ Below wr.heap.size wr W ∧ w8.heap.size ≤ W.heap.size ∧ Blk W (wr.heap.size + 1) 3 #[.int .i64 0])
      (fun _ pre _ => ∃ (p : List (Fin X.coming.length)) (x : Fin X.coming.length), pre = p ++ [x] ∧ x.1 ≠ p.length) ?_ (fun _ => ItS.ownFrom_pure _ _) ⟨K108.out, Hb8.out, Nat.le_refl _, K118.out⟩
      (fun x a' W => ∃ g9, a' = comingFrame b0 b1 (wr.heap.size) g9 (fun i => a'.tmps.getD i undef) ∧ Blk W g9 66 X.coming[x.1].cells.toArray) ?_ ?_ ?_ ?_ ?_)
    · exact (ItS.ownFrom_blk' _ _ _ (fun (pre : List (Fin X.coming.length)) => #[.int .i64 (pre.length : Int)])).and ((ownFrom_below (Nat.le_refl _) Hb8.out.size).and (OwnFrom.and (fun _ W W' row h hg _ => Nat.le_trans h hg.size) (ItS.ownFrom_blk _ _ _ _)))
    · rintro x a' _ W W' row ⟨g9, e, hb⟩ hg hr
      exact ⟨g9, e, ItS.ownFrom_blk (β := Unit) _ _ _ _ () W W' row hb hg hr⟩
    · rintro l pre x W K ⟨i1, iB, iS, iK⟩ hKa
      have HI := hide (And.intro i1 (And.intro iB iS))
      have HIK := hide iK
      have HKa := hide hKa
      have HZ := hide (Blk.new W 66 EvV.zero.cells.toArray)
      clear i1 iB iS iK hKa hK2
      dsimp only [ItV.encs]
      gi_wp2_with ((with_reducible refine ItS.wpListIn_store_row ?g2 66 (.tmp 12) (.tmp 85) ?o2 W.heap.size X.coming[x.1].cells.toArray ?x2 ?y2 66 EvV.zero.cells.toArray ?k2 ?s2 ?l2 ?a2 ?_); (case g2 => exact rfl); (case o2 => exact rfl); (case x2 => exact rfl); (case y2 => exact rfl); (case k2 => exact HZ.out); (case s2 => exact Ev.sizeR _); (case l2 => simp [EvV.length]); (case a2 => exact EvV.all _))
      have hbY : Below W.heap.size W ((W.alloc (.cells EvV.zero.cells.toArray 66)).setRow W.heap.size X.coming[x.1].cells.toArray) := below_setRow ((Below.refl _ W).alloc (Nat.le_refl _) _) (Nat.le_refl _) _
      have hWs : wr.heap.size ≤ W.heap.size := HI.out.2.1.size
      refine HKa.out _ _ ⟨hbY.size, fun j o _ hj _ => (hbY.block j (Array.getElem?_eq_some_iff.1 hj).1).trans hj⟩ (hbY.mono hWs) ⟨(hbY.block _ HI.out.1.lt).trans HI.out.1, HI.out.2.1.trans (hbY.mono hWs), Nat.le_trans HI.out.2.2 hbY.size, (hbY.block _ HIK.out.lt).trans HIK.out⟩ ⟨W.heap.size, rfl, HZ.out.setRow _⟩
    · rintro l pre ⟨i, hi⟩ a' W hl hrec ⟨i1, iB, iS, iK⟩ ⟨g9, ha, hk9⟩ hpre
      dsimp only at hi hk9 ha ⊢
      generalize (fun j => a'.tmps.getD j undef) = v at ha
      subst ha
      unfold comingFrame
      obtain ⟨bA, oA, hAe, hGb, hbA, hrg⟩ := (HRc.out.below iB).at_ hpre
      obtain ⟨b, hbt, hneq⟩ := neqE_any X.coming[i] X.coming[pre.length]
      have hbt' := hide hbt
      have Hneq := hide hneq
      have k0W : Blk W b0 62 #[.slice A' X.D.zs.length c', .int .i64 X.D.size, .int .i64 X.D.op, .int .i64 (X.D.n : Int), .bool X.D.down, .slice Ac' X.coming.length cc', .slice Ah' X.happened.length ch'] := (iB.block _ K05.out.lt).trans K05.out
      obtain ⟨-, -, -, -, -, q5, q6, -⟩ := k0W.seven
      rw [hAe] at q5
      have c1 : W.cell? ⟨wr.heap.size, 0, none⟩ = some (.int .i64 (pre.length : Int)) := i1.cell 0
      have r9 : W.rangeAt g9 0 X.coming[i].cells := EvV.range _ hk9
      have hge : decide (X.coming.length ≤ pre.length) = false := decide_eq_false (by omega)
      have hge2 : decide ((X.coming.length : Int) ≤ (pre.length : Int)) = false := decide_eq_false (by omega)
      have hlc : X.coming.length ≤ 65536 := Hlc.out
      have ewl : IntKind.i64.wrap ((pre.length : Int) + 1) = (pre.length : Int) + 1 := IntWalk.i64_in _ (by omega)
      have Hof := hide (fun W => R8.of_any X.coming[i] W)
      unfold EvV.agg at Hof
      have hbaW := hbA
      have hg9W := hk9.lt
      have hb0W := k0W.lt
      have hgnW := i1.lt
      have HW := hide (And.intro hbaW (And.intro hg9W (And.intro hb0W hgnW)))
      have HSW : Hid (W.drew.cell? ⟨wr.heap.size, 0, none⟩ = some (.int .i64 (pre.length : Int)) ∧ W.drew.cell? ⟨b0, 5, none⟩ = some (.slice (some ⟨bA, oA, none⟩) X.coming.length cc') ∧ W.drew.rangeAt g9 0 X.coming[i].cells ∧ W.drew.rangeAt bA (oA + pre.length * 68) X.coming[pre.length].cells) := hide ⟨c1, q5, r9, hrg⟩
      clear hbt hneq k0W hAe hGb hbaW hg9W hb0W hgnW hbA hK2 q5 q6 c1 r9 hrg
      gi_upto_region 18 with (fail)
      refine InRound.wpIn_region_held (S := fun w' => w'.cell? ⟨wr.heap.size, 0, none⟩ = some (.int .i64 (pre.length : Int)) ∧ w'.cell? ⟨b0, 5, none⟩ = some (.slice (some ⟨bA, oA, none⟩) X.coming.length cc') ∧ w'.rangeAt g9 0 X.coming[i].cells ∧ w'.rangeAt bA (oA + pre.length * 68) X.coming[pre.length].cells) (by kernel_rfl) (by kernel_rfl) HSW.out (fun hHeld => ?_)
      refine wpAnyH_take (i := 0) (oi := ⟨_, _, _, _, _, _⟩) (v := ?_) rfl (by kernel_rfl) (by kernel_rfl) (by kernel_rfl) (fun _ _ _ h => h) (Or.inl ⟨by rfl, ?_⟩) hHeld ?_
      rotate_left
      · intro w' hS
        obtain ⟨x0, x1, x2, x3⟩ := hS
        go_simp
        first | done | with_reducible rfl
      try simp only [Act.put, List.setIfInBounds_toArray, List.set_cons_zero, List.set_cons_succ]
      refine wpAnyH_take (i := 1) (oi := ⟨_, _, _, _, _, _⟩) (v := ?_) rfl (by kernel_rfl) (by kernel_rfl) (by kernel_rfl) (fun _ _ _ h => h) (Or.inl ⟨by rfl, ?_⟩) hHeld ?_
      rotate_left
      · intro w' hS
        obtain ⟨x0, x1, x2, x3⟩ := hS
        go_simp
        first | done | with_reducible rfl
      try simp only [Act.put, List.setIfInBounds_toArray, List.set_cons_zero, List.set_cons_succ]
      refine wpAnyH_take (i := 2) (oi := ⟨_, _, _, _, _, _⟩) (v := ?_) rfl (by kernel_rfl) (by kernel_rfl) (by kernel_rfl) (fun _ _ _ h => h) (Or.inl ⟨by rfl, ?_⟩) hHeld ?_
      rotate_left
      · intro w' hS
        obtain ⟨x0, x1, x2, x3⟩ := hS
        go_simp
        first | done | with_reducible rfl
      try simp only [Act.put, List.setIfInBounds_toArray, List.set_cons_zero, List.set_cons_succ]
      refine wpAnyH_take (i := 3) (oi := ⟨_, _, _, _, _, _⟩) (v := ?_) rfl (by kernel_rfl) (by kernel_rfl) (by kernel_rfl) (fun _ _ _ h => h) (Or.inl ⟨by rfl, ?_⟩) hHeld ?_
      rotate_left
      · intro w' hS
        obtain ⟨x0, x1, x2, x3⟩ := hS
        go_simp
        first | done | with_reducible rfl
      try simp only [Act.put, List.setIfInBounds_toArray, List.set_cons_zero, List.set_cons_succ]
      refine wpAnyH_take (i := 4) (oi := ⟨_, _, _, _, _, _⟩) (v := ?_) rfl (by kernel_rfl) (by kernel_rfl) (by kernel_rfl) (fun _ _ _ h => h) (Or.inl ⟨by rfl, ?_⟩) hHeld ?_
      rotate_left
      · intro w' hS
        obtain ⟨x0, x1, x2, x3⟩ := hS
        go_simp
        first | done | with_reducible rfl
      try simp only [Act.put, List.setIfInBounds_toArray, List.set_cons_zero, List.set_cons_succ]
      refine wpAnyH_take (i := 5) (oi := ⟨_, _, _, _, _, _⟩) (v := ?_) rfl (by kernel_rfl) (by kernel_rfl) (by kernel_rfl) (fun _ _ _ h => h) (Or.inl ⟨by rfl, ?_⟩) hHeld ?_
      rotate_left
      · intro w' hS
        obtain ⟨x0, x1, x2, x3⟩ := hS
        go_simp
        first | done | with_reducible rfl
      try simp only [Act.put, List.setIfInBounds_toArray, List.set_cons_zero, List.set_cons_succ]
      refine wpAnyH_take (i := 6) (oi := ⟨_, _, _, _, _, _⟩) (v := .agg X.coming[i].cells.toArray) rfl (by kernel_rfl) (by kernel_rfl) (by kernel_rfl) (fun _ _ _ h => h) (Or.inl ⟨by rfl, fun w' hS => exec_load_row 66 (.tmp 12) rfl g9 0 rfl X.coming[i].cells _ hS.2.2.1 Try.underlying66 rfl (Ev.size _)⟩) hHeld ?_
      try simp only [Act.put, List.setIfInBounds_toArray, List.set_cons_zero, List.set_cons_succ]
      refine wpAnyH_take (i := 8) (oi := ⟨_, _, _, _, _, _⟩) (v := ?_) rfl (by kernel_rfl) (by kernel_rfl) (by kernel_rfl) (fun _ _ _ h => h) (Or.inl ⟨by rfl, ?_⟩) hHeld ?_
      rotate_left
      · intro w' hS
        obtain ⟨x0, x1, x2, x3⟩ := hS
        go_simp
        first | done | with_reducible rfl
      try simp only [Act.put, List.setIfInBounds_toArray, List.set_cons_zero, List.set_cons_succ]
      refine wpAnyH_take (i := 9) (oi := ⟨_, _, _, _, _, _⟩) (v := ?_) rfl (by kernel_rfl) (by kernel_rfl) (by kernel_rfl) (fun _ _ _ h => h) (Or.inl ⟨by rfl, ?_⟩) hHeld ?_
      rotate_left
      · intro w' hS
        obtain ⟨x0, x1, x2, x3⟩ := hS
        go_simp
        first | done | with_reducible rfl
      try simp only [Act.put, List.setIfInBounds_toArray, List.set_cons_zero, List.set_cons_succ]
      refine wpAnyH_take (i := 10) (oi := ⟨_, _, _, _, _, _⟩) (v := ?_) rfl (by kernel_rfl) (by kernel_rfl) (by kernel_rfl) (fun _ _ _ h => h) (Or.inl ⟨by rfl, ?_⟩) hHeld ?_
      rotate_left
      · intro w' hS
        obtain ⟨x0, x1, x2, x3⟩ := hS
        go_simp
        first | done | with_reducible rfl
      try simp only [Act.put, List.setIfInBounds_toArray, List.set_cons_zero, List.set_cons_succ]
      refine wpAnyH_take (i := 11) (oi := ⟨_, _, _, _, _, _⟩) (v := ?_) rfl (by kernel_rfl) (by kernel_rfl) (by kernel_rfl) (fun _ _ _ h => h) (Or.inl ⟨by rfl, ?_⟩) hHeld ?_
      rotate_left
      · intro w' hS
        obtain ⟨x0, x1, x2, x3⟩ := hS
        go_simp
        first | done | with_reducible rfl
      try simp only [Act.put, List.setIfInBounds_toArray, List.set_cons_zero, List.set_cons_succ]
      refine wpAnyH_take (i := 12) (oi := ⟨_, _, _, _, _, _⟩) (v := .agg X.coming[pre.length].cells.toArray) rfl (by kernel_rfl) (by kernel_rfl) (by kernel_rfl) (fun _ _ _ h => h) (Or.inl ⟨by rfl, fun w' hS => exec_load_row 116 (.tmp 97) rfl bA (oA + pre.length * 68) rfl X.coming[pre.length].cells _ hS.2.2.2 Try.underlying116 rfl (E8.size _)⟩) hHeld ?_
      try simp only [Act.put, List.setIfInBounds_toArray, List.set_cons_zero, List.set_cons_succ]
      refine wpAnyH_ready (rs := [7]) (by kernel_rfl) (by simp) ?_
      refine AllReadyH.cons rfl (fun K hK => ?_) AllReadyH.nil
      go_simp
      refine (Hof.out _).mono ?_
      rintro e wo ⟨rfl, hbo⟩
      have Hbo : Hid (Below W.heap.size W wo) := hide (((Below.refl _ W).drew).trans hbo)
      clear hbo Hof
      go_simp
      have hSo : wo.cell? ⟨wr.heap.size, 0, none⟩ = some (.int .i64 (pre.length : Int)) ∧ wo.cell? ⟨b0, 5, none⟩ = some (.slice (some ⟨bA, oA, none⟩) X.coming.length cc') ∧ wo.rangeAt g9 0 X.coming[i].cells ∧ wo.rangeAt bA (oA + pre.length * 68) X.coming[pre.length].cells :=
        ⟨(Hbo.out.cell (p := ⟨wr.heap.size, 0, none⟩) HW.out.2.2.2).trans HSW.out.1, (Hbo.out.cell (p := ⟨b0, 5, none⟩) HW.out.2.2.1).trans HSW.out.2.1, ItS.range_below Hbo.out HW.out.2.1 HSW.out.2.2.1, ItS.range_below Hbo.out HW.out.1 HSW.out.2.2.2⟩
      refine hK.out _ _ hSo (fun hHeld => ?_)
      clear hK K hSo
      try simp only [Act.put, List.setIfInBounds_toArray, List.set_cons_zero, List.set_cons_succ]
      refine wpAnyH_take (i := 13) (oi := ⟨_, _, _, _, _, _⟩) (v := .bool b) rfl (by kernel_rfl) (by kernel_rfl) (by kernel_rfl) (fun _ _ _ h => h) (Or.inl ⟨by rfl, fun w' _ => exec_neq_any Hneq.out (.tmp 93) (.tmp 98) rfl rfl rfl⟩) hHeld ?_
      try simp only [Act.put, List.setIfInBounds_toArray, List.set_cons_zero, List.set_cons_succ]
      refine wpAnyH_take (i := 14) (oi := ⟨_, _, _, _, _, _⟩) (v := ?_) rfl (by kernel_rfl) (by kernel_rfl) (by kernel_rfl) (fun _ _ _ h => h) (Or.inl ⟨by rfl, ?_⟩) hHeld ?_
      rotate_left
      · intro w' hS
        obtain ⟨x0, x1, x2, x3⟩ := hS
        go_simp
        first | done | with_reducible rfl
      try simp only [Act.put, List.setIfInBounds_toArray, List.set_cons_zero, List.set_cons_succ]
      refine wpAnyH_done (by kernel_rfl) ?_ _
      refine InRound.Only.normal ?_
      have i1o : Blk wo (wr.heap.size) 3 #[.int .i64 (pre.length : Int)] := (Hbo.out.block _ HW.out.2.2.2).trans i1
      have hWs : wr.heap.size ≤ W.heap.size := iB.size
      have hbw := Hbo.out
      cases b with
      | true =>
        have k1 : Blk wo b1 4 #[.bool false] := (Hbo.out.block _ (by have := K15.out.lt; omega)).trans ((iB.block _ K15.out.lt).trans K15.out)
        have cb := k1.cell 0
        have fb := k1.frozen 0
        have hne : i ≠ pre.length := fun e => by
          have := hbt'.out (by simp only [e])
          cases this
        have Hne := hide hne
        clear hne
        gi_wp2
        have hkf := keepsFrom_then (B := w8.heap.size) hbw (p := ⟨b1, 0, none⟩) (by have := K15.out.lt; have := Hb8.out.size; dsimp only; omega) (.bool false)
        exact ⟨⟨hkf.size, hkf.same⟩, pre, ⟨i, hi⟩, rfl, Hne.out⟩
      | false =>
        have c2 : wo.cell? ⟨wr.heap.size, 0, none⟩ = some (.int .i64 (pre.length : Int)) := i1o.cell 0
        have f2 := i1o.frozen 0
        gi_wp2
        have hbs : Below wr.heap.size W (wo.setCell ⟨wr.heap.size, 0, none⟩ (.int .i64 ((pre.length : Int) + 1))) := (hbw.mono hWs).setCell (p := ⟨wr.heap.size, 0, none⟩) (by dsimp only; omega) _
        refine ⟨keepsFrom_then hbw (p := ⟨wr.heap.size, 0, none⟩) (by have := K108.out.lt; dsimp only; omega) _, hbs, ?_, iB.trans hbs, Nat.le_trans iS hbs.size, ?_⟩
        · have := i1o.set_ 0 (.int .i64 ((pre.length : Int) + 1))
          have e : ∀ y : Fin X.coming.length, (((pre ++ [y]).length : Nat) : Int) = (pre.length : Int) + 1 := fun y => by simp
          rw [e]
          exact this
        · exact (show Blk wo (wr.heap.size + 1) 3 #[.int .i64 0] from (hbw.block _ iK.lt).trans iK).far (p := ⟨wr.heap.size, 0, none⟩) (by simp) _
    · rintro D1 xs W hD rfl ⟨i1, iB, iS, iK⟩ hdef
      refine hK2 _ _ ?_
      clear hK2
      rw [ItS.upto_length (Nat.le_refl _)] at i1
      have hlD1 : D1 < W.heap.size := (Array.getElem?_eq_some_iff.1 hdef).1
      have HD1 := hide (And.intro hdef (And.intro hlD1 (Nat.le_trans Hb8.out.size hD)))
      have HbW := hide iB
      have K10W := hide i1
      have K11W := hide iK
      have Hhap := hide (ItV.happened_any (Hd5.out.below iB))
      have hlh : X.happened.length ≤ 65536 := by have := Hc.out; omega
      have Hlh := hide hlh
      clear i1 iB iS iK hdef hlD1 hlh
      go_wp2_with fail
      refine Hhap.out.mono ?_
      rintro e w9 ⟨rfl, hw9⟩
      have k9 := Blk.new W 118 #[.slice Ah X.happened.length ch]
      have hb9 : Below W.heap.size W (W.alloc (.cells #[.slice Ah X.happened.length ch] 118)) := (Below.refl _ W).alloc (Nat.le_refl _) _
      rw [hw9] at k9 hb9
      have K109 : Hid (Blk w9 wr.heap.size 3 #[.int .i64 (X.coming.length : Int)]) := hide ((hb9.block _ K10W.out.lt).trans K10W.out)
      have K119 : Hid (Blk w9 (wr.heap.size + 1) 3 #[.int .i64 0]) := hide ((hb9.block _ K11W.out.lt).trans K11W.out)
      have Hb9 := hide (HbW.out.trans (hb9.mono HbW.out.size))
      have HD19 : Hid (w9.heap[D1]? = some (.deferred (some [])) ∧ D1 < w9.heap.size ∧ wr.heap.size ≤ D1) := hide ⟨(hb9.block _ HD1.out.2.1).trans HD1.out.1, Nat.lt_of_lt_of_le HD1.out.2.1 hb9.size, HD1.out.2.2⟩
      have K9 := hide k9
      clear hw9 k9 hb9 Hhap K10W K11W
      go_wp2_with fail
      rename_i hK3
      refine (wpIn_wide (n := 9)).1 (wpIn_rangeFunc_ownH rfl (by omega) rfl trivial (fun _ _ => rfl) (encs := ItV.encs X.happened) (Kp := Below wr.heap.size) (ItV.values_stops Fence.wide 8 trivial rfl (by omega) _ wr.heap.size Ah ch X.happened Hlh.out w9 K9.out.lt Hb9.out.size (K9.out.cell 0) (HEvh.out.below Hb9.out)) belowK_t (belowK_b Hb9.out.size) (Below.refl _ _) (fun _ => rfl)
        (fun pre W => Blk W (wr.heap.size + 1) 3 #[.int .i64 (pre.length : Int)] ∧ Below wr.heap.size wr W ∧ w9.heap.size ≤ W.heap.size ∧ (Blk W wr.heap.size 3 #[.int .i64 (X.coming.length : Int)] ∧ W.heap[D1]? = some (.deferred (some []))))
        (fun _ pre _ => ∃ (p : List (Fin X.happened.length)) (x : Fin X.happened.length), pre = p ++ [x] ∧ x.1 ≠ p.length) ?_ (fun _ => ItS.ownFrom_pure _ _) ⟨K119.out, Hb9.out, Nat.le_refl _, K109.out, HD19.out.1⟩
        (fun x a' W => ∃ g9, a' = happenedFrame b0 b1 ((wr.heap.size + 1)) g9 (fun i => a'.tmps.getD i undef) ∧ Blk W g9 66 X.happened[x.1].cells.toArray) ?_ ?_ ?_ ?_ ?_)
      · exact (ItS.ownFrom_blk' _ _ _ (fun (pre : List (Fin X.happened.length)) => #[.int .i64 (pre.length : Int)])).and ((ownFrom_below (Nat.le_refl _) Hb9.out.size).and (OwnFrom.and (fun _ W W' row h hg _ => Nat.le_trans h hg.size) ((ItS.ownFrom_blk _ _ _ _).and (fun _ W W' row h hg hr => (hg.block _ (Array.getElem?_eq_some_iff.1 h).1 (fun e => by have := (hr _ e.symm).1; have := HD19.out.2.1; omega)).trans h))))
      · rintro x a' _ W W' row ⟨g9, e, hb⟩ hg hr
        exact ⟨g9, e, ItS.ownFrom_blk (β := Unit) _ _ _ _ () W W' row hb hg hr⟩
      · rintro l pre x W K ⟨i1, iB, iS, iK⟩ hKa
        have HI := hide (And.intro i1 (And.intro iB iS))
        have HIK := hide iK
        have HKa := hide hKa
        have HZ := hide (Blk.new W 66 EvV.zero.cells.toArray)
        clear i1 iB iS iK hKa hK3
        dsimp only [ItV.encs]
        gi_wp2_with ((with_reducible refine ItS.wpListIn_store_row ?g2 66 (.tmp 13) (.tmp 105) ?o2 W.heap.size X.happened[x.1].cells.toArray ?x2 ?y2 66 EvV.zero.cells.toArray ?k2 ?s2 ?l2 ?a2 ?_); (case g2 => exact rfl); (case o2 => exact rfl); (case x2 => exact rfl); (case y2 => exact rfl); (case k2 => exact HZ.out); (case s2 => exact Ev.sizeR _); (case l2 => simp [EvV.length]); (case a2 => exact EvV.all _))
        have hbY : Below W.heap.size W ((W.alloc (.cells EvV.zero.cells.toArray 66)).setRow W.heap.size X.happened[x.1].cells.toArray) := below_setRow ((Below.refl _ W).alloc (Nat.le_refl _) _) (Nat.le_refl _) _
        have hWs : wr.heap.size ≤ W.heap.size := HI.out.2.1.size
        refine HKa.out _ _ ⟨hbY.size, fun j o _ hj _ => (hbY.block j (Array.getElem?_eq_some_iff.1 hj).1).trans hj⟩ (hbY.mono hWs) ⟨(hbY.block _ HI.out.1.lt).trans HI.out.1, HI.out.2.1.trans (hbY.mono hWs), Nat.le_trans HI.out.2.2 hbY.size, (hbY.block _ HIK.out.1.lt).trans HIK.out.1, (hbY.block _ (Array.getElem?_eq_some_iff.1 HIK.out.2).1).trans HIK.out.2⟩ ⟨W.heap.size, rfl, HZ.out.setRow _⟩
      · rintro l pre ⟨i, hi⟩ a' W hl hrec ⟨i1, iB, iS, iK⟩ ⟨g9, ha, hk9⟩ hpre
        dsimp only at hi hk9 ha ⊢
        generalize (fun j => a'.tmps.getD j undef) = v at ha
        subst ha
        unfold happenedFrame
        obtain ⟨bA, oA, hAe, hGb, hbA, hrg⟩ := (HRh.out.below iB).at_ hpre
        obtain ⟨b, hbt, hneq⟩ := neqE_any X.happened[i] X.happened[pre.length]
        have hbt' := hide hbt
        have Hneq := hide hneq
        have k0W : Blk W b0 62 #[.slice A' X.D.zs.length c', .int .i64 X.D.size, .int .i64 X.D.op, .int .i64 (X.D.n : Int), .bool X.D.down, .slice Ac' X.coming.length cc', .slice Ah' X.happened.length ch'] := (iB.block _ K05.out.lt).trans K05.out
        obtain ⟨-, -, -, -, -, q5, q6, -⟩ := k0W.seven
        rw [hAe] at q6
        have c1 : W.cell? ⟨(wr.heap.size + 1), 0, none⟩ = some (.int .i64 (pre.length : Int)) := i1.cell 0
        have r9 : W.rangeAt g9 0 X.happened[i].cells := EvV.range _ hk9
        have hge : decide (X.happened.length ≤ pre.length) = false := decide_eq_false (by omega)
        have hge2 : decide ((X.happened.length : Int) ≤ (pre.length : Int)) = false := decide_eq_false (by omega)
        have hlc : X.happened.length ≤ 65536 := Hlh.out
        have ewl : IntKind.i64.wrap ((pre.length : Int) + 1) = (pre.length : Int) + 1 := IntWalk.i64_in _ (by omega)
        have Hof := hide (fun W => R8.of_any X.happened[i] W)
        unfold EvV.agg at Hof
        have hbaW := hbA
        have hg9W := hk9.lt
        have hb0W := k0W.lt
        have hgnW := i1.lt
        have HW := hide (And.intro hbaW (And.intro hg9W (And.intro hb0W hgnW)))
        have HSW : Hid (W.drew.cell? ⟨(wr.heap.size + 1), 0, none⟩ = some (.int .i64 (pre.length : Int)) ∧ W.drew.cell? ⟨b0, 6, none⟩ = some (.slice (some ⟨bA, oA, none⟩) X.happened.length ch') ∧ W.drew.rangeAt g9 0 X.happened[i].cells ∧ W.drew.rangeAt bA (oA + pre.length * 68) X.happened[pre.length].cells) := hide ⟨c1, q6, r9, hrg⟩
        clear hbt hneq k0W hAe hGb hbaW hg9W hb0W hgnW hbA hK3 q5 q6 c1 r9 hrg
        gi_upto_region 23 with (fail)
        refine InRound.wpIn_region_held (S := fun w' => w'.cell? ⟨(wr.heap.size + 1), 0, none⟩ = some (.int .i64 (pre.length : Int)) ∧ w'.cell? ⟨b0, 6, none⟩ = some (.slice (some ⟨bA, oA, none⟩) X.happened.length ch') ∧ w'.rangeAt g9 0 X.happened[i].cells ∧ w'.rangeAt bA (oA + pre.length * 68) X.happened[pre.length].cells) (by kernel_rfl) (by kernel_rfl) HSW.out (fun hHeld => ?_)
        refine wpAnyH_take (i := 0) (oi := ⟨_, _, _, _, _, _⟩) (v := ?_) rfl (by kernel_rfl) (by kernel_rfl) (by kernel_rfl) (fun _ _ _ h => h) (Or.inl ⟨by rfl, ?_⟩) hHeld ?_
        rotate_left
        · intro w' hS
          obtain ⟨x0, x1, x2, x3⟩ := hS
          go_simp
          first | done | with_reducible rfl
        try simp only [Act.put, List.setIfInBounds_toArray, List.set_cons_zero, List.set_cons_succ]
        refine wpAnyH_take (i := 1) (oi := ⟨_, _, _, _, _, _⟩) (v := ?_) rfl (by kernel_rfl) (by kernel_rfl) (by kernel_rfl) (fun _ _ _ h => h) (Or.inl ⟨by rfl, ?_⟩) hHeld ?_
        rotate_left
        · intro w' hS
          obtain ⟨x0, x1, x2, x3⟩ := hS
          go_simp
          first | done | with_reducible rfl
        try simp only [Act.put, List.setIfInBounds_toArray, List.set_cons_zero, List.set_cons_succ]
        refine wpAnyH_take (i := 2) (oi := ⟨_, _, _, _, _, _⟩) (v := ?_) rfl (by kernel_rfl) (by kernel_rfl) (by kernel_rfl) (fun _ _ _ h => h) (Or.inl ⟨by rfl, ?_⟩) hHeld ?_
        rotate_left
        · intro w' hS
          obtain ⟨x0, x1, x2, x3⟩ := hS
          go_simp
          first | done | with_reducible rfl
        try simp only [Act.put, List.setIfInBounds_toArray, List.set_cons_zero, List.set_cons_succ]
        refine wpAnyH_take (i := 3) (oi := ⟨_, _, _, _, _, _⟩) (v := ?_) rfl (by kernel_rfl) (by kernel_rfl) (by kernel_rfl) (fun _ _ _ h => h) (Or.inl ⟨by rfl, ?_⟩) hHeld ?_
        rotate_left
        · intro w' hS
          obtain ⟨x0, x1, x2, x3⟩ := hS
          go_simp
          first | done | with_reducible rfl
        try simp only [Act.put, List.setIfInBounds_toArray, List.set_cons_zero, List.set_cons_succ]
        refine wpAnyH_take (i := 4) (oi := ⟨_, _, _, _, _, _⟩) (v := ?_) rfl (by kernel_rfl) (by kernel_rfl) (by kernel_rfl) (fun _ _ _ h => h) (Or.inl ⟨by rfl, ?_⟩) hHeld ?_
        rotate_left
        · intro w' hS
          obtain ⟨x0, x1, x2, x3⟩ := hS
          go_simp
          first | done | with_reducible rfl
        try simp only [Act.put, List.setIfInBounds_toArray, List.set_cons_zero, List.set_cons_succ]
        refine wpAnyH_take (i := 5) (oi := ⟨_, _, _, _, _, _⟩) (v := ?_) rfl (by kernel_rfl) (by kernel_rfl) (by kernel_rfl) (fun _ _ _ h => h) (Or.inl ⟨by rfl, ?_⟩) hHeld ?_
        rotate_left
        · intro w' hS
          obtain ⟨x0, x1, x2, x3⟩ := hS
          go_simp
          first | done | with_reducible rfl
        try simp only [Act.put, List.setIfInBounds_toArray, List.set_cons_zero, List.set_cons_succ]
        refine wpAnyH_take (i := 6) (oi := ⟨_, _, _, _, _, _⟩) (v := .agg X.happened[i].cells.toArray) rfl (by kernel_rfl) (by kernel_rfl) (by kernel_rfl) (fun _ _ _ h => h) (Or.inl ⟨by rfl, fun w' hS => exec_load_row 66 (.tmp 13) rfl g9 0 rfl X.happened[i].cells _ hS.2.2.1 Try.underlying66 rfl (Ev.size _)⟩) hHeld ?_
        try simp only [Act.put, List.setIfInBounds_toArray, List.set_cons_zero, List.set_cons_succ]
        refine wpAnyH_take (i := 8) (oi := ⟨_, _, _, _, _, _⟩) (v := ?_) rfl (by kernel_rfl) (by kernel_rfl) (by kernel_rfl) (fun _ _ _ h => h) (Or.inl ⟨by rfl, ?_⟩) hHeld ?_
        rotate_left
        · intro w' hS
          obtain ⟨x0, x1, x2, x3⟩ := hS
          go_simp
          first | done | with_reducible rfl
        try simp only [Act.put, List.setIfInBounds_toArray, List.set_cons_zero, List.set_cons_succ]
        refine wpAnyH_take (i := 9) (oi := ⟨_, _, _, _, _, _⟩) (v := ?_) rfl (by kernel_rfl) (by kernel_rfl) (by kernel_rfl) (fun _ _ _ h => h) (Or.inl ⟨by rfl, ?_⟩) hHeld ?_
        rotate_left
        · intro w' hS
          obtain ⟨x0, x1, x2, x3⟩ := hS
          go_simp
          first | done | with_reducible rfl
        try simp only [Act.put, List.setIfInBounds_toArray, List.set_cons_zero, List.set_cons_succ]
        refine wpAnyH_take (i := 10) (oi := ⟨_, _, _, _, _, _⟩) (v := ?_) rfl (by kernel_rfl) (by kernel_rfl) (by kernel_rfl) (fun _ _ _ h => h) (Or.inl ⟨by rfl, ?_⟩) hHeld ?_
        rotate_left
        · intro w' hS
          obtain ⟨x0, x1, x2, x3⟩ := hS
          go_simp
          first | done | with_reducible rfl
        try simp only [Act.put, List.setIfInBounds_toArray, List.set_cons_zero, List.set_cons_succ]
        refine wpAnyH_take (i := 11) (oi := ⟨_, _, _, _, _, _⟩) (v := ?_) rfl (by kernel_rfl) (by kernel_rfl) (by kernel_rfl) (fun _ _ _ h => h) (Or.inl ⟨by rfl, ?_⟩) hHeld ?_
        rotate_left
        · intro w' hS
          obtain ⟨x0, x1, x2, x3⟩ := hS
          go_simp
          first | done | with_reducible rfl
        try simp only [Act.put, List.setIfInBounds_toArray, List.set_cons_zero, List.set_cons_succ]
        refine wpAnyH_take (i := 12) (oi := ⟨_, _, _, _, _, _⟩) (v := .agg X.happened[pre.length].cells.toArray) rfl (by kernel_rfl) (by kernel_rfl) (by kernel_rfl) (fun _ _ _ h => h) (Or.inl ⟨by rfl, fun w' hS => exec_load_row 116 (.tmp 117) rfl bA (oA + pre.length * 68) rfl X.happened[pre.length].cells _ hS.2.2.2 Try.underlying116 rfl (E8.size _)⟩) hHeld ?_
        try simp only [Act.put, List.setIfInBounds_toArray, List.set_cons_zero, List.set_cons_succ]
        refine wpAnyH_ready (rs := [7]) (by kernel_rfl) (by simp) ?_
        refine AllReadyH.cons rfl (fun K hK => ?_) AllReadyH.nil
        go_simp
        refine (Hof.out _).mono ?_
        rintro e wo ⟨rfl, hbo⟩
        have Hbo : Hid (Below W.heap.size W wo) := hide (((Below.refl _ W).drew).trans hbo)
        clear hbo Hof
        go_simp
        have hSo : wo.cell? ⟨(wr.heap.size + 1), 0, none⟩ = some (.int .i64 (pre.length : Int)) ∧ wo.cell? ⟨b0, 6, none⟩ = some (.slice (some ⟨bA, oA, none⟩) X.happened.length ch') ∧ wo.rangeAt g9 0 X.happened[i].cells ∧ wo.rangeAt bA (oA + pre.length * 68) X.happened[pre.length].cells :=
          ⟨(Hbo.out.cell (p := ⟨(wr.heap.size + 1), 0, none⟩) HW.out.2.2.2).trans HSW.out.1, (Hbo.out.cell (p := ⟨b0, 6, none⟩) HW.out.2.2.1).trans HSW.out.2.1, ItS.range_below Hbo.out HW.out.2.1 HSW.out.2.2.1, ItS.range_below Hbo.out HW.out.1 HSW.out.2.2.2⟩
        refine hK.out _ _ hSo (fun hHeld => ?_)
        clear hK K hSo
        try simp only [Act.put, List.setIfInBounds_toArray, List.set_cons_zero, List.set_cons_succ]
        refine wpAnyH_take (i := 13) (oi := ⟨_, _, _, _, _, _⟩) (v := .bool b) rfl (by kernel_rfl) (by kernel_rfl) (by kernel_rfl) (fun _ _ _ h => h) (Or.inl ⟨by rfl, fun w' _ => exec_neq_any Hneq.out (.tmp 113) (.tmp 118) rfl rfl rfl⟩) hHeld ?_
        try simp only [Act.put, List.setIfInBounds_toArray, List.set_cons_zero, List.set_cons_succ]
        refine wpAnyH_take (i := 14) (oi := ⟨_, _, _, _, _, _⟩) (v := ?_) rfl (by kernel_rfl) (by kernel_rfl) (by kernel_rfl) (fun _ _ _ h => h) (Or.inl ⟨by rfl, ?_⟩) hHeld ?_
        rotate_left
        · intro w' hS
          obtain ⟨x0, x1, x2, x3⟩ := hS
          go_simp
          first | done | with_reducible rfl
        try simp only [Act.put, List.setIfInBounds_toArray, List.set_cons_zero, List.set_cons_succ]
        refine wpAnyH_done (by kernel_rfl) ?_ _
        refine InRound.Only.normal ?_
        have i1o : Blk wo ((wr.heap.size + 1)) 3 #[.int .i64 (pre.length : Int)] := (Hbo.out.block _ HW.out.2.2.2).trans i1
        have hWs : wr.heap.size ≤ W.heap.size := iB.size
        have hbw := Hbo.out
        cases b with
        | true =>
          have k1 : Blk wo b1 4 #[.bool false] := (Hbo.out.block _ (by have := K15.out.lt; omega)).trans ((iB.block _ K15.out.lt).trans K15.out)
          have cb := k1.cell 0
          have fb := k1.frozen 0
          have hne : i ≠ pre.length := fun e => by
            have := hbt'.out (by simp only [e])
            cases this
          have Hne := hide hne
          clear hne
          gi_wp2
          have hkf := keepsFrom_then (B := w9.heap.size) hbw (p := ⟨b1, 0, none⟩) (by have := K15.out.lt; have := Hb9.out.size; dsimp only; omega) (.bool false)
          exact ⟨⟨hkf.size, hkf.same⟩, pre, ⟨i, hi⟩, rfl, Hne.out⟩
        | false =>
          have c2 : wo.cell? ⟨(wr.heap.size + 1), 0, none⟩ = some (.int .i64 (pre.length : Int)) := i1o.cell 0
          have f2 := i1o.frozen 0
          gi_wp2
          have hbs : Below wr.heap.size W (wo.setCell ⟨(wr.heap.size + 1), 0, none⟩ (.int .i64 ((pre.length : Int) + 1))) := (hbw.mono hWs).setCell (p := ⟨(wr.heap.size + 1), 0, none⟩) (by dsimp only; omega) _
          refine ⟨keepsFrom_then hbw (p := ⟨(wr.heap.size + 1), 0, none⟩) (by have := K119.out.lt; dsimp only; omega) _, hbs, ?_, iB.trans hbs, Nat.le_trans iS hbs.size, ?_⟩
          · have := i1o.set_ 0 (.int .i64 ((pre.length : Int) + 1))
            have e : ∀ y : Fin X.happened.length, (((pre ++ [y]).length : Nat) : Int) = (pre.length : Int) + 1 := fun y => by simp
            rw [e]
            exact this
          · have hDl := (Array.getElem?_eq_some_iff.1 iK.2).1
            refine ⟨(show Blk wo wr.heap.size 3 #[.int .i64 (X.coming.length : Int)] from (hbw.block _ iK.1.lt).trans iK.1).far (p := ⟨(wr.heap.size + 1), 0, none⟩) (by simp) _, ?_⟩
            have hne : D1 ≠ wr.heap.size + 1 := fun e => by
              have h1 : W.heap[wr.heap.size + 1]? = some _ := i1
              have h2 := iK.2
              rw [e] at h2
              rw [h2] at h1
              cases h1
            exact (Below.heap_setCell _ ⟨(wr.heap.size + 1), 0, none⟩ _ D1 hne).trans ((hbw.block _ hDl).trans iK.2)
      · rintro D2 xs W2 hD2 rfl ⟨i1, iB, iS, iK⟩ hdef2
        refine hK3 _ _ ?_
        clear hK3
        rw [ItS.upto_length (Nat.le_refl _)] at i1
        have c10 : W2.cell? ⟨wr.heap.size, 0, none⟩ = some (.int .i64 (X.coming.length : Int)) := iK.1.cell 0
        have c11 : W2.cell? ⟨wr.heap.size + 1, 0, none⟩ = some (.int .i64 (X.happened.length : Int)) := i1.cell 0
        have k0W : Blk W2 b0 62 #[.slice A' X.D.zs.length c', .int .i64 X.D.size, .int .i64 X.D.op, .int .i64 (X.D.n : Int), .bool X.D.down, .slice Ac' X.coming.length cc', .slice Ah' X.happened.length ch'] := (iB.block _ K05.out.lt).trans K05.out
        obtain ⟨-, -, -, -, -, q5, q6, -⟩ := k0W.seven
        have k1W : Blk W2 b1 4 #[.bool false] := (iB.block _ K15.out.lt).trans K15.out
        have cb := k1W.cell 0
        have fb := k1W.frozen 0
        have hin : ∀ D ∈ Ds, D < wr.heap.size := fun D hD => (Array.getElem?_eq_some_iff.1 (HDs.out.1 D hD).1).1
        have h39 := HWr.out
        have h99 := Hb9.out.size
        have hge : ∀ D ∈ D2 :: D1 :: Ds, W3.heap.size ≤ D := by
          intro D hD
          rcases List.mem_cons.1 hD with rfl | hD
          · omega
          · rcases List.mem_cons.1 hD with rfl | hD
            · have := HD19.out.2.2; omega
            · exact (HDs.out.1 D hD).2
        have hmk : ∀ D ∈ D2 :: D1 :: Ds, W2.heap[D]? = some (.deferred (some [])) := by
          intro D hD
          rcases List.mem_cons.1 hD with rfl | hD
          · exact hdef2
          · rcases List.mem_cons.1 hD with rfl | hD
            · exact iK.2
            · exact (iB.block D (hin D hD)).trans (HDs.out.1 D hD).1
        have hnd2 : (D2 :: D1 :: Ds).Nodup := by
          refine List.nodup_cons.2 ⟨fun hm => ?_, List.nodup_cons.2 ⟨fun hm => ?_, HDs.out.2⟩⟩
          · rcases List.mem_cons.1 hm with rfl | h
            · have := HD19.out.2.1; omega
            · have := hin _ h; omega
          · have := hin _ hm
            have := HD19.out.2.2
            omega
        have HE := hide (And.intro hge (And.intro hmk hnd2))
        have HB2 := hide iB
        have K1W := hide k1W
        clear i1 iB iS iK hdef2 hin h39 h99 hge hmk hnd2 k0W k1W
        go_wp2_with fail
        have hne : ∀ D ∈ D2 :: D1 :: Ds, D ≠ b1 := fun D hD => by have := HE.out.1 D hD; have := Hb01.out; omega
        refine ItS.leaves_marks (D2 :: D1 :: Ds) _ (fun D hD => (Below.heap_setCell _ ⟨b1, 0, none⟩ _ D (hne D hD)).trans (HE.out.2.1 D hD)) HE.out.2.2 (fun w' hw' => ?_)
        have hc : w'.cell? ⟨b1, 0, none⟩ = some (.bool true) := by
          have hk : w'.heap[b1]? = (W2.setCell ⟨b1, 0, none⟩ (.bool true)).heap[b1]? := hw'.2.2.2.2 b1 (fun hm => hne _ hm rfl)
          have := (K1W.out.set_ 0 (.bool true)).of_heap hk rfl
          simpa using this.cell 0
        refine ⟨.bool true, by simp [results, Try.f43, go_sem, hc], rfl, ?_⟩
        have hWB : Below w.heap.size w W2 := HBW.out.trans (HB2.out.mono HBW.out.size)
        exact (hWB.setCell (p := ⟨b1, 0, none⟩) (by have := Hb1.out; dsimp only; omega) _).trans (ItS.below_marks hw' (fun D hD => by have := HE.out.1 D hD; have := HB3.out.size; omega))
      · rintro D' cc0 pre W hD ⟨q0, hq, rfl⟩ ⟨p, x, hp, hx⟩ hdef
        exact absurd (ItS.upto_last hq hp) hx
    · rintro D' cc0 pre W hD ⟨q0, hq, rfl⟩ ⟨p, x, hp, hx⟩ hdef
      exact absurd (ItS.upto_last hq hp) hx
end
end Same8
end Go.Proofs.Ytdinbhanekpjoaa
