/-
  slices.All over a slice of sectors: its contract; how a function is left that went over such an iterator; and what Look hands back.
-/
import Derived.Test.YtdinbhanekpjoaaRel7
import Derived.RangeFuncBox
import Derived.RangeFuncNested
import Derived.RangeFuncLeaves
import Derived.Shelf.Abstract
import Derived.WalkKit
import Derived.OwnWalkIn
import Derived.TacticsInMore
import Derived.LoopNIn
import Derived.LoopIn
import Derived.Sort.CutIn
namespace Go.Proofs.Ytdinbhanekpjoaa.ItS
open Go.RowKit Go.Shelf

attribute [local go_sem] Oper.semAt_some

/-! ### Whole sectors in a fenced walk -/
section
variable {F : Fence} {n : Nat} {P : Program}
theorem wpListIn_load_mid {ops : Array Oper} {rest : List Oper} {op : Oper} {a : Act} {w : World} {Q : Exit → Act → World → Prop} (hgd : op.guard = none) (ty : TypeId) (x : Operand) (ho : op.op = .load ty x)
    (b o : Nat) (hx : a.eval x = .pointer (some ⟨b, o, none⟩)) (cs : List Value) (d : TypeDesc) (hc : w.rangeAt b o cs)
    (hu : P.underlying ty = some d) (hd : d.isRow = true) (hi : (P.info? ty).map (·.size) = some cs.length)
    (h : wpListIn F n P ops Q rest (a.put op.dst (.agg cs.toArray)) w) : wpListIn F n P ops Q (op :: rest) a w := by
  refine wpListIn_plain hgd fun K hK => ⟨fun f hf => ?_, ?_⟩
  · simp [Oper.about, ho] at hf
  · rw [Oper.semAt_eq _ _ _ (by simp [ho])]
    unfold execOp
    simp only [ho, hx, Sem.run_bind, run_loadAt_mid w b o ty cs d hc hu hd hi, Result.andThen_ok, Sem.run_pure]
    exact hK _ _ h
theorem wpListIn_store_row {ops : Array Oper} {rest : List Oper} {o : Oper} {a : Act} {w : World} {Q : Exit → Act → World → Prop} (hgd : o.guard = none) (ty : TypeId) (x y : Operand) (ho : o.op = .store ty x y)
    (g : Nat) (cells : Array Value) (hx : a.eval x = .pointer (some ⟨g, 0, none⟩)) (hy : a.eval y = .agg cells)
    (t : TypeId) (old : Array Value) (hg : w.heap[g]? = some (.cells old t (0, 0))) (hi : (P.info? ty).map (·.size) = some cells.size)
    (hold : old.size = cells.size) (h1 : cells.all (·.oneCell') = true)
    (h : wpListIn F n P ops Q rest (a.put o.dst undef) (w.setRow g cells)) : wpListIn F n P ops Q (o :: rest) a w := by
  refine wpListIn_plain hgd fun K hK => ⟨fun f hf => ?_, ?_⟩
  · simp [Oper.about, ho] at hf
  · rw [Oper.semAt_eq _ _ _ (by simp [ho])]
    unfold execOp
    simp only [ho, hx, hy, Instr.storeAt, Instr.sureAddr, Sem.run_bind, Sem.run_pure, Result.andThen_ok, run_storeVar_row w g t ty old cells hg hi hold h1]
    exact hK _ _ h
end

/-- What has come when k rounds are over: the first k indexes. -/
def upto (N k : Nat) : List (Fin N) := (List.finRange N).take k
theorem upto_zero (N : Nat) : upto N 0 = [] := by simp [upto]
theorem upto_succ {N k : Nat} (hk : k < N) : upto N (k + 1) = upto N k ++ [⟨k, hk⟩] := by
  unfold upto
  rw [List.take_succ_eq_append_getElem (by simpa using hk)]
  simp
theorem upto_length {N k : Nat} (hk : k ≤ N) : (upto N k).length = k := by simp [upto, hk]
/-- The last that came stands at its own place. -/
theorem upto_last {N k : Nat} (hk : k ≤ N) {pre : List (Fin N)} {x : Fin N} (h : upto N k = pre ++ [x]) : x.1 = pre.length := by
  have hl : k = pre.length + 1 := by have := congrArg List.length h; rw [upto_length hk] at this; simpa using this
  subst hl
  rw [upto_succ (by omega)] at h
  have h2 := List.append_inj' h rfl
  have := h2.2
  simp at this
  rw [← this]

abbrev encs (zs : List Sec) (j : Fin zs.length) : Array Value := #[Value.int .i64 (j.1 : Int), .agg zs[j.1].cs.toArray]
/-- The slice value .slice A n c holds the sectors zs, in a block below n₀. -/
def Secs (n₀ : Nat) (W : World) (A : Option Addr) (zs : List Sec) : Prop :=
  ∀ j (h : j < zs.length), ∃ b, A = some ⟨b, 0, none⟩ ∧ b < n₀ ∧ W.rangeAt b (j * 64) zs[j].cs
theorem range_below {n₀ b o : Nat} {X Y : World} {cs : List Value} (h : Below n₀ X Y) (hb : b < n₀) (hr : X.rangeAt b o cs) : Y.rangeAt b o cs := fun i v hv => (h.cell (p := ⟨b, o + i, none⟩) hb).trans (hr i v hv)
theorem Secs.below {n₀ : Nat} {X Y : World} (h : Below n₀ X Y) {A : Option Addr} {zs : List Sec} (hi : Secs n₀ X A zs) : Secs n₀ Y A zs := fun j hj => by
  obtain ⟨b, e, hb, hc⟩ := hi j hj
  exact ⟨b, e, hb, range_below h hb hc⟩
theorem Secs.of_own' {w : World} {A : Option Addr} {n c n₀ : Nat} {zs : List Sec} {e : TypeId} (h : w.ownsRow 0 e 64 (.slice A n c) n (zs.flatMap Sec.cs)) (hb : ∀ g, (Value.slice A n c).ownBlock = some g → g < n₀) : Secs n₀ w A zs := fun j hj => by
  have hn : zs.length = n := by have := h.1; rw [flat_length] at this; omega
  obtain ⟨g, hA, _, hg, hr⟩ := R7.own_range h hn j hj
  exact ⟨g, hA, hb g (by rw [hA]; rfl), hr⟩
theorem Secs.of_own {w : World} {A : Option Addr} {n c : Nat} {zs : List Sec} {e : TypeId} (h : w.ownsRow 0 e 64 (.slice A n c) n (zs.flatMap Sec.cs)) : Secs w.heap.size w A zs := fun j hj => by
  have hn : zs.length = n := by have := h.1; rw [flat_length] at this; omega
  obtain ⟨g, hA, _, hg, hr⟩ := R7.own_range h hn j hj
  exact ⟨g, hA, hg, hr⟩

set_option maxRecDepth 100000 in
set_option maxHeartbeats 2000000 in
/-- slices.All's closure, for every loop body that keeps what lay below n₀. -/
theorem all1_in (F : Fence) (n : Nat) (h8 : F.fn 103) (hro : F.round = none) (hn : 1 ≤ n) (l Bs n₀ : Nat) (A : Option Addr) (cap : Nat) (zs : List Sec) (hreach : zs.length ≤ 65536) (J Jx : List (Fin zs.length) → World → Prop)
    (hJ : ∀ s W W', J s W → Below W.heap.size W W' → J s W')
    (hY : ∀ pre x W, J pre W → pre.length < zs.length → YieldAt F (n - 1) Try.prog l (encs zs x) W fun e W' =>
      (e = .returned (.bool true) ∧ J (pre ++ [x]) W' ∧ Below n₀ W W') ∨ (e = .returned (.bool false) ∧ Jx (pre ++ [x]) W'))
    (W : World) (hn₀ : n₀ ≤ W.heap.size) (hBs : W.cell? ⟨Bs, 0, none⟩ = some (.slice A zs.length cap)) (hc : Secs n₀ W A zs) (h0 : J [] W) :
    CallsIn F n Try.prog 103 #[.func (.yield l) #[] #[], .pointer (some ⟨Bs, 0, none⟩)] W fun e W' => (∃ v, e = .returned v) ∧
      ((∃ ys, ys = upto zs.length zs.length ∧ J ys W') ∨ (∃ pre, (∃ k, k ≤ zs.length ∧ pre = upto zs.length k) ∧ Jx pre W')) := by
  refine callsIn_of_wp Try.func103 rfl h8 ?_ hro
  simp only [Try.ntmps103, List.size_toArray, List.length_cons, List.length_nil, Nat.reduceAdd, Nat.reduceSub, Array.replicate_succ, Array.replicate_zero, List.push_toArray, List.append_toArray, List.nil_append, List.cons_append]
  have hc' := hide hc
  have hY' := hide hY
  have hJ' := hide hJ
  clear hc hY hJ
  gi_wp2
  gi_loopw [7] (fun i wr => ∃ k : Nat, k ≤ zs.length ∧ i = .int .i64 k ∧ J (upto zs.length k) wr ∧ Below n₀ W wr)
    (fun i _ => zs.length - (intOf i).toNat)
  case atStart => exact ⟨0, Nat.zero_le _, rfl, by rw [upto_zero]; exact h0, Below.refl _ _⟩
  case round =>
    obtain ⟨k, hk, rfl, hJs, hnx⟩ := hrel
    by_cases hlt : k < zs.length
    · obtain ⟨b, rfl, hb, hcell⟩ := hc'.out k hlt
      have Hcx := hide (range_below hnx hb hcell)
      have hsz : n₀ ≤ wr.heap.size := Nat.le_trans hn₀ hnx.size
      have HZ := hide (Blk.new wr 34 Sec.zero.cs.toArray)
      have hbY : Below wr.heap.size wr ((wr.alloc (.cells Sec.zero.cs.toArray 34)).setRow wr.heap.size zs[k].cs.toArray) := below_setRow ((Below.refl _ wr).alloc (Nat.le_refl _) _) (Nat.le_refl _) _
      have hkx := HZ.out.setRow zs[k].cs.toArray
      clear hcell
      gi_upto_region 3 with (first | ((with_reducible refine wpListIn_load_mid ?g1 34 (.tmp 10) ?o1 b (k * 64) ?x1 zs[k].cs ?d1 ?r1 ?u1 ?f1 ?i1 ?_); (case g1 => exact rfl); (case o1 => exact rfl); (case x1 => exact rfl); (case r1 => exact Hcx.out); (case u1 => exact Try.underlying34); (case f1 => exact rfl); (case i1 => exact ZD.sizeSec _)) | ((with_reducible refine wpListIn_store_row ?g2 34 (.tmp 4) (.tmp 11) ?o2 wr.heap.size zs[k].cs.toArray ?x2 ?y2 34 Sec.zero.cs.toArray ?k2 ?s2 ?l2 ?a2 ?_); (case g2 => exact rfl); (case o2 => exact rfl); (case x2 => exact rfl); (case y2 => exact rfl); (case k2 => exact HZ.out); (case s2 => exact ZD.sizeRow _); (case l2 => simp [Sec.len]); (case a2 => exact sec_all _)))
      generalize hWA : World.setRow (World.alloc wr _) _ _ = wa
      have hWA' : (wr.alloc (.cells Sec.zero.cs.toArray 34)).setRow wr.heap.size zs[k].cs.toArray = wa := hWA
      rw [hWA'] at hbY hkx
      clear hWA hWA' HZ Hcx
      have hJa := hJ'.out _ _ _ hJs hbY
      have Hbn := hide (hnx.trans (hbY.mono hsz))
      have Hkx := hide hkx
      obtain ⟨fn, tmps, assign, body, hy, hR⟩ := hY'.out _ ⟨k, hlt⟩ wa hJa (by rw [upto_length hk]; exact hlt)
      dsimp only [encs] at hy
      clear hbY hkx hJa hJs hnx
      gi_wp2_with ((with_reducible refine wpListIn_load_mid ?g3 34 (.tmp 4) ?o3 wr.heap.size 0 ?x3 zs[k].cs ?d3 ?r3 ?u3 ?f3 ?i3 ?_); (case g3 => exact rfl); (case o3 => exact rfl); (case x3 => exact rfl); (case r3 => exact ZD.range_blk _ Hkx.out); (case u3 => exact Try.underlying34); (case f3 => exact rfl); (case i3 => exact ZD.sizeSec _))
      refine hR.mono ?_
      rintro e W3 (⟨rfl, hJ3, hk3⟩ | ⟨rfl, hJx3⟩)
      · gi_wp2
        go_roundw
        case rel => exact ⟨k + 1, by omega, by simp, by rw [upto_succ hlt]; exact hJ3, Hbn.out.trans hk3⟩
        case measure => simp [intOf]; omega
      · gi_wp2
        refine bodyPost_ret (results_none rfl _ _ _) rfl ?_
        exact ⟨⟨_, rfl⟩, .inr ⟨_, ⟨k + 1, by omega, (upto_succ hlt).symm⟩, hJx3⟩⟩
    · obtain rfl : k = zs.length := by omega
      gi_wp2
      go_end0
      exact ⟨⟨_, rfl⟩, .inl ⟨_, rfl, hJs⟩⟩

/-- slices.All(s) hands back a value that goes over the indexes and what stands there: all; or the first k of them. -/
theorem all_stops (F : Fence) (n : Nat) (h8 : F.fn 103) (hro : F.round = none) (hn : 1 ≤ n) (Bs n₀ : Nat) (A : Option Addr) (cap : Nat) (zs : List Sec) (hreach : zs.length ≤ 65536) (w : World) (hBs : Bs < w.heap.size) (hn₀ : n₀ ≤ w.heap.size)
    (hc : w.cell? ⟨Bs, 0, none⟩ = some (.slice A zs.length cap)) (hI : Secs n₀ w A zs) :
    SeqStopsK F n Try.prog 103 #[.pointer (some ⟨Bs, 0, none⟩)] (encs zs) (Below n₀) (fun ys => ys = upto zs.length zs.length)
      (fun pre => ∃ k, k ≤ zs.length ∧ pre = upto zs.length k) zs.length w := fun l J Jx W hW hJ _ hY h0 => by
  have hc' := (hW.cell (p := ⟨Bs, 0, none⟩) hBs).trans hc
  exact all1_in F n h8 hro hn l Bs n₀ A cap zs hreach J Jx (fun s W W' hs hb => hJ s W W' none hs ⟨hb.os, hb.tape, hb.output, hb.size, fun k hk _ => hb.block k hk⟩ (fun r e => by cases e)) hY W (Nat.le_trans hn₀ hW.size) hc' (hI.below (hW.mono hn₀)) h0

/-- A block of cells stands through the turns of blocks that are no cells. -/
theorem ownFrom_blk {β : Type} (B g : Nat) (T : TypeId) (cs : Array Value) : OwnFrom B (fun (_ : β) W => Blk W g T cs) := fun _ W W' row hs hg hr => by
  refine (hg.block g hs.lt (fun e => ?_)).trans hs
  obtain ⟨_, o, ho, hc⟩ := hr g e.symm
  have hs' : W.heap[g]? = some (.cells cs T (0, 0)) := hs
  rw [hs'] at ho
  cases ho
  simp [Obj.isCells] at hc
theorem ownFrom_blk' {β : Type} (B g : Nat) (T : TypeId) (cs : β → Array Value) : OwnFrom B (fun (s : β) W => Blk W g T (cs s)) := fun s W W' row hs hg hr => ownFrom_blk (β := Unit) B g T (cs s) () W W' row hs hg hr
theorem ownFrom_pure {β : Type} (B : Nat) (p : β → Prop) : OwnFrom B (fun (s : β) (_ : World) => p s) := fun _ _ _ _ hs _ _ => hs
theorem keepsFrom_setCell {B : Nat} (W : World) {p : Addr} (hp : p.block < B) (u : Value) : KeepsFrom B W (W.setCell p u) :=
  ⟨by simp [World.setCell], fun k o hB hk _ => (Below.heap_setCell W p u k (by omega)).trans hk⟩

/-! ### How a function is left: marks of loops over an iterator among its deferred calls -/
/-- The mark of a loop over an iterator. -/
def mark (D : Nat) : Deferred := { target := .collected D, args := #[] }
/-- A function that went over iterators is left: what it hands back is read when all marks are taken. -/
theorem leaves_marks {F : Fence} {n : Nat} {P : Program} {fn : Func} {tmps : Array Value} {R : Ending → World → Prop} : ∀ (Ds : List Nat) (w : World), (∀ D ∈ Ds, w.heap[D]? = some (.deferred (some []))) → Ds.Nodup →
    (∀ w', (w'.os = w.os ∧ w'.tape = w.tape ∧ w'.output = w.output ∧ w'.heap.size = w.heap.size ∧ ∀ k, k ∉ Ds → w'.heap[k]? = w.heap[k]?) → LeavesInM F n P fn tmps R [] .returning w') → LeavesInM F n P fn tmps R (Ds.map mark) .returning w := by
  intro Ds
  induction Ds with
  | nil => exact fun w _ _ h => h w ⟨rfl, rfl, rfl, rfl, fun _ _ => rfl⟩
  | cons D Ds ih =>
    intro w hD hnd h
    have hk := hD D (by simp)
    obtain ⟨hnot, hnd'⟩ := List.nodup_cons.1 hnd
    refine ⟨by simp, .inl ⟨D, _, rfl, run_takeDeferred hk, ?_⟩⟩
    have hlt : D < w.heap.size := (Array.getElem?_eq_some_iff.1 hk).1
    refine ih _ (fun D' hD' => ?_) hnd' (fun w' hw' => h w' ?_)
    · have hne : D' ≠ D := fun e => hnot (by rw [← e]; exact hD')
      exact (World.putObj_heap_other (by first | exact hne | exact hne.symm)).trans (hD D' (by simp [hD']))
    · obtain ⟨h1, h2, h3, h4, h5⟩ := hw'
      refine ⟨h1, h2, h3, by rw [h4]; simp [World.putObj], fun k hk => ?_⟩
      have hne : k ≠ D := fun e => hk (by simp [e])
      exact (h5 k (fun h => hk (by simp [h]))).trans (World.putObj_heap_other (by first | exact hne | exact hne.symm))
theorem below_marks {n : Nat} {w w' : World} {Ds : List Nat} (h : w'.os = w.os ∧ w'.tape = w.tape ∧ w'.output = w.output ∧ w'.heap.size = w.heap.size ∧ ∀ k, k ∉ Ds → w'.heap[k]? = w.heap[k]?) (hD : ∀ D ∈ Ds, n ≤ D) : Below n w w' :=
  ⟨h.1, h.2.1, h.2.2.1, Nat.le_of_eq h.2.2.2.1.symm, fun k hk => h.2.2.2.2 k (fun hm => by have := hD k hm; omega)⟩
/-- A function's contract from its body, where the body goes over iterators. -/
theorem calls_of_wp_marks {P : Program} {f : FuncId} {fn : Func} {c : Code} {args : Array Value} {w : World} {R : Ending → World → Prop} (hf : P.funcs[f]? = some fn) (hb : fn.body = some c)
    (h : c.wp P (bodyPostM Fence.wide 9 P fn R) { tmps := args ++ Array.replicate (fn.ntmps - args.size) undef, defers := [] } w) : Calls P f args w R :=
  (callsIn_wide (n := 9)).1 (callsIn_of_wp_marks hf hb trivial (wpIn_wide.2 h) rfl)
/-- A loop over an iterator, met in a plain walk. -/
theorem wp_rangeFunc_own {P : Program} {α : Type} {g : Operand} {ps : Array Tmp} {assign body : Code} {Q : Exit → Act → World → Prop} {a : Act} {w : World}
    {gf : Nat} {lb : Array Value} (hg : a.eval g = .func (.func gf) #[] lb) (eg : ∀ args w, (callFunc gf args).run P w = .ok (.enter gf args) w)
    {encs : α → Array Value} {n₀ : Nat} {S Sp : List α → Prop} {N : Nat} (hseq : SeqStopsK Fence.wide 8 P gf lb encs (Below n₀) S Sp N w) (hn₀ : n₀ ≤ w.heap.size) (hps : ∀ x, (encs x).size = ps.size)
    (I : List α → World → Prop) (Ix : Code → List α → World → Prop) (hI : OwnFrom w.heap.size I) (hIx : ∀ c, OwnFrom w.heap.size (Ix c)) (h0 : I [] w) (a₁ : α → Act)
    (hassign : ∀ (l : Nat) (x : α) (W : World) (K : Act → World → Prop), K (a₁ x) W →
      assign.wpIn (Fence.wide.inRound l) 7 P (Exit.then K (fun _ _ _ => False)) { tmps := (ps.zip (encs x)).foldl (fun t (p, v) => t.setIfInBounds p v) a.tmps, defers := [] } W)
    (hbody : ∀ (l : Nat) (pre : List α) (x : α) (W : World), I pre W → pre.length < N → body.wpIn (Fence.wide.inRound l) 7 P (ownPostG w.heap.size (Below n₀) I Ix (pre ++ [x]) W) (a₁ x) W)
    (hdone : ∀ (D : Nat) (xs : List α) (W : World), w.heap.size ≤ D → S xs → I xs W → W.heap[D]? = some (.deferred (some [])) → Q .normal { a with defers := mark D :: a.defers } W)
    (hstop : ∀ (D : Nat) (c : Code) (pre : List α) (W : World), w.heap.size ≤ D → Sp pre → Ix c pre W → W.heap[D]? = some (.deferred (some [])) → c.wp P Q { a with defers := mark D :: a.defers } W) :
    (Code.rangeFunc g ps assign body).wp P Q a w :=
  (wpIn_wide (n := 9)).1 (wpIn_rangeFunc_ownG rfl (by omega) hg trivial eg hseq belowK_t (belowK_b hn₀) (Below.refl _ _) hps I Ix hI hIx h0 a₁ hassign hbody hdone (fun D c pre W h1 h2 h3 h4 => wpIn_wide.2 (hstop D c pre W h1 h2 h3 h4)))

/-! ### Look -/
set_option maxHeartbeats 400000 in
theorem slicesAll_any (A : Option Addr) (n c : Nat) (w : World) :
    Calls Try.prog 99 #[.slice A n c] w fun e w' => e = .returned (.func (.func 103) #[] #[.pointer (some ⟨w.heap.size, 0, none⟩)]) ∧ w.alloc (.cells #[.slice A n c] 47) = w' := by
  go_enter Try.func99, Try.ntmps99
  go_wp2
  go_ret
  exact ⟨rfl, rfl⟩
set_option maxHeartbeats 400000 in
theorem all_any (b : Nat) (A : Option Addr) (n c : Nat) (w : World) (hc : w.cell? ⟨b, 0, none⟩ = some (.slice A n c)) :
    Calls Try.prog 83 #[.pointer (some ⟨b, 0, none⟩)] w fun e w' => e = .returned (.func (.func 103) #[] #[.pointer (some ⟨w.heap.size, 0, none⟩)]) ∧ w.alloc (.cells #[.slice A n c] 47) = w' := by
  go_enter Try.func83, Try.ntmps83
  go_wp2_with (go_at_call 99; refine (slicesAll_any _ _ _ _).mono ?_; rintro e w' ⟨rfl, rfl⟩)
  go_ret
  exact ⟨rfl, rfl⟩

section
variable {w : World} {d : Nat} {D : Dv} {F : Nat → Prop} {A : Option Addr} {c : Nat} {bs : List Nat} {Fs : Nat → Nat → Prop}
/-- Look at a zone that is there. -/
theorem look_in (h : DevIs w d D F A c bs Fs) (k : Nat) (hk : k < D.zs.length) (n₀ : Nat) (hn₀ : ∀ b, F b → b < n₀) : Calls Try.prog 42 #[.pointer (some ⟨d, 0, none⟩), .int .i64 (k : Int)] w fun e w' =>
    ∃ zA zc, e = .returned (.func (.func 103) #[] #[.pointer (some ⟨w.heap.size, 0, none⟩)]) ∧ w.alloc (.cells #[.slice zA D.zs[k].L.length zc] 47) = w' ∧ Secs n₀ w zA D.zs[k].L := by
  have Hc := hide (DM.has_yes h k hk)
  obtain ⟨g, rfl, hlc, hk', c0, cg, hz⟩ := DM.ready h hk
  obtain ⟨zA, zc, hzb, _, hown, hzF, _⟩ := hz
  have z0 : w.cell? ⟨bs[k], 0, none⟩ = some (.slice zA D.zs[k].L.length zc) := hzb.cell 0
  have Hs := hide (Secs.of_own' hown (fun g hg => hn₀ _ (h.inF.2.2 k hk _ (hzF g hg).1)))
  have Hall := hide (all_any bs[k] zA D.zs[k].L.length zc w z0)
  clear h hzb hown z0 hzF hn₀
  go_enter Try.func42, Try.ntmps42
  go_wp2_with fail
  refine Hc.out.mono ?_
  rintro e w' ⟨rfl, rfl⟩
  go_wp2_with fail
  refine Hall.out.mono ?_
  rintro e w' ⟨rfl, rfl⟩
  go_wp2_with fail
  go_ret
  exact ⟨zA, zc, rfl, rfl, Hs.out⟩
/-- Look at a zone that is not there. -/
theorem look_out (h : DevIs w d D F A c bs Fs) (z : Int) (hz : z < 0 ∨ (D.zs.length : Int) ≤ z) : Calls Try.prog 42 #[.pointer (some ⟨d, 0, none⟩), .int .i64 z] w fun e w' =>
    e = .returned (.func (.func 82) #[] #[]) ∧ w = w' := by
  have Hc := hide (DM.has_no h z hz)
  clear h hz
  go_enter Try.func42, Try.ntmps42
  go_wp2_with fail
  refine Hc.out.mono ?_
  rintro e w' ⟨rfl, rfl⟩
  go_wp2_with fail
  go_ret
  exact ⟨rfl, rfl⟩
end
end Go.Proofs.Ytdinbhanekpjoaa.ItS
