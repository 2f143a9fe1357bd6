/-
  slices.All over a slice of ints: its contract; and how a function is left that went over such an iterator, once or many times.
-/
import Derived.Test.YtahlphclighccaaZI
import Derived.RangeFuncBox
import Derived.RangeFuncNested
import Derived.RangeFuncLeaves
import Derived.Shelf.Abstract
import Derived.WalkKit
import Derived.OwnWalkIn
import Derived.TacticsInMore
import Derived.LoopNIn
import Derived.LoopIn
namespace Go.Proofs.Ytahlphclighccaa.It
open Go.RowKit Go.Shelf

attribute [local go_sem] Oper.semAt_some

/-- What has come when k rounds are over: the first k indexes. -/
def upto (N k : Nat) : List (Fin N) := (List.finRange N).take k
theorem upto_zero (N : Nat) : upto N 0 = [] := by simp [upto]
theorem upto_succ {N k : Nat} (hk : k < N) : upto N (k + 1) = upto N k ++ [⟨k, hk⟩] := by
  unfold upto
  rw [List.take_succ_eq_append_getElem (by simpa using hk)]
  simp
theorem upto_length {N k : Nat} (hk : k ≤ N) : (upto N k).length = k := by simp [upto, hk]
/-- The last that came stands at its own place. -/
theorem upto_last {N k : Nat} (hk : k ≤ N) {pre : List (Fin N)} {x : Fin N} (h : upto N k = pre ++ [x]) : x.1 = pre.length := by
  have hl : k = pre.length + 1 := by have := congrArg List.length h; rw [upto_length hk] at this; simpa using this
  subst hl
  rw [upto_succ (by omega)] at h
  have h2 := List.append_inj' h rfl
  have := h2.2
  simp at this
  rw [← this]

abbrev encs (zs : List Int) (j : Fin zs.length) : Array Value := #[Value.int .i64 (j.1 : Int), Value.int .i64 zs[j.1]]

set_option maxRecDepth 100000 in
set_option maxHeartbeats 2000000 in
/-- slices.All's closure, for every loop body that keeps what lay below n₀. -/
theorem all1_in (F : Fence) (n : Nat) (h8 : F.fn 42) (hro : F.round = none) (hn : 1 ≤ n) (l Bs n₀ : Nat) (A : Option Addr) (cap : Nat) (zs : List Int) (hreach : zs.length ≤ 65536) (J Jx : List (Fin zs.length) → World → Prop)
    (hY : ∀ pre x W, J pre W → pre.length < zs.length → YieldAt F (n - 1) Try.prog l (encs zs x) W fun e W' =>
      (e = .returned (.bool true) ∧ J (pre ++ [x]) W' ∧ Below n₀ W W') ∨ (e = .returned (.bool false) ∧ Jx (pre ++ [x]) W'))
    (W : World) (hBs : W.cell? ⟨Bs, 0, none⟩ = some (.slice A zs.length cap)) (hc : ∀ j (h : j < zs.length), ∃ b off, A = some ⟨b, off, none⟩ ∧ b < n₀ ∧ W.cell? ⟨b, off + j, none⟩ = some (.int .i64 zs[j])) (h0 : J [] W) :
    CallsIn F n Try.prog 42 #[.func (.yield l) #[] #[], .pointer (some ⟨Bs, 0, none⟩)] W fun e W' => (∃ v, e = .returned v) ∧
      ((∃ ys, ys = upto zs.length zs.length ∧ J ys W') ∨ (∃ pre, (∃ k, k ≤ zs.length ∧ pre = upto zs.length k) ∧ Jx pre W')) := by
  refine callsIn_of_wp Try.func42 rfl h8 ?_ hro
  simp only [Try.ntmps42, List.size_toArray, List.length_cons, List.length_nil, Nat.reduceAdd, Nat.reduceSub, Array.replicate_succ, Array.replicate_zero, List.push_toArray, List.append_toArray, List.nil_append, List.cons_append]
  have hc' := hide hc
  have hY' := hide hY
  clear hc hY
  gi_wp2
  gi_loopw [7] (fun i wr => ∃ k : Nat, k ≤ zs.length ∧ i = .int .i64 k ∧ J (upto zs.length k) wr ∧ Below n₀ W wr)
    (fun i _ => zs.length - (intOf i).toNat)
  case atStart => exact ⟨0, Nat.zero_le _, rfl, by rw [upto_zero]; exact h0, Below.refl _ _⟩
  case round =>
    obtain ⟨k, hk, rfl, hJs, hnx⟩ := hrel
    by_cases hlt : k < zs.length
    · obtain ⟨b, off, rfl, hb, hcell⟩ := hc'.out k hlt
      have hcx : wr.cell? ⟨b, off + k, none⟩ = some (.int .i64 zs[k]) := (hnx.cell (p := ⟨b, off + k, none⟩) hb).trans hcell
      obtain ⟨fn, tmps, assign, body, hy, hR⟩ := hY'.out _ ⟨k, hlt⟩ wr hJs (by rw [upto_length hk]; exact hlt)
      dsimp only [encs] at hy
      clear hcell
      gi_wp2
      refine hR.mono ?_
      rintro e W3 (⟨rfl, hJ3, hk3⟩ | ⟨rfl, hJx3⟩)
      · gi_wp2
        go_roundw
        case rel => exact ⟨k + 1, by omega, by simp, by rw [upto_succ hlt]; exact hJ3, hnx.trans hk3⟩
        case measure => simp [intOf]; omega
      · gi_wp2
        refine bodyPost_ret (results_none rfl _ _ _) rfl ?_
        exact ⟨⟨_, rfl⟩, .inr ⟨_, ⟨k + 1, by omega, (upto_succ hlt).symm⟩, hJx3⟩⟩
    · obtain rfl : k = zs.length := by omega
      gi_wp2
      go_end0
      exact ⟨⟨_, rfl⟩, .inl ⟨_, rfl, hJs⟩⟩

/-- The slice value .slice A n c holds the ints zs, in a block below n₀. -/
def Ints (n₀ : Nat) (W : World) (A : Option Addr) (zs : List Int) : Prop :=
  ∀ j (h : j < zs.length), ∃ b off, A = some ⟨b, off, none⟩ ∧ b < n₀ ∧ W.cell? ⟨b, off + j, none⟩ = some (.int .i64 zs[j])
theorem Ints.below {n₀ : Nat} {X Y : World} (h : Below n₀ X Y) {A : Option Addr} {zs : List Int} (hi : Ints n₀ X A zs) : Ints n₀ Y A zs := fun j hj => by
  obtain ⟨b, off, e, hb, hc⟩ := hi j hj
  exact ⟨b, off, e, hb, (h.cell (p := ⟨b, off + j, none⟩) hb).trans hc⟩
theorem Ints.of_own {w : World} {A : Option Addr} {n c base : Nat} {zs : List Int} {e : TypeId} (h : w.ownsRow base e 1 (.slice A n c) n (zs.map (Value.int .i64))) : Ints w.heap.size w A zs := fun j hj => by
  have hn : zs.length = n := by have := h.1; simpa using this
  rcases h.2 with ⟨h', h0⟩ | ⟨g, cap, cur, h', _⟩
  · omega
  · simp only [Value.slice.injEq, true_and] at h'
    obtain ⟨rfl, rfl⟩ := h'
    refine ⟨g, 0, rfl, (h.lt g rfl).2, ?_⟩
    have := h.cells (g := g) rfl j (.int .i64 zs[j]) (by simp [hj])
    simpa [Addr.add_lit] using this

/-- slices.All(s) hands back a value that goes over the indexes and what stands there: all; or the first k of them. -/
theorem all_stops (F : Fence) (n : Nat) (h8 : F.fn 42) (hro : F.round = none) (hn : 1 ≤ n) (Bs n₀ : Nat) (A : Option Addr) (cap : Nat) (zs : List Int) (hreach : zs.length ≤ 65536) (w : World) (hBs : Bs < w.heap.size) (hn₀ : n₀ ≤ w.heap.size)
    (hc : w.cell? ⟨Bs, 0, none⟩ = some (.slice A zs.length cap)) (hI : Ints n₀ w A zs) :
    SeqStopsK F n Try.prog 42 #[.pointer (some ⟨Bs, 0, none⟩)] (encs zs) (Below n₀) (fun ys => ys = upto zs.length zs.length)
      (fun pre => ∃ k, k ≤ zs.length ∧ pre = upto zs.length k) zs.length w := fun l J Jx W hW _ _ hY h0 => by
  have hc' := (hW.cell (p := ⟨Bs, 0, none⟩) hBs).trans hc
  exact all1_in F n h8 hro hn l Bs n₀ A cap zs hreach J Jx hY W hc' (hI.below (hW.mono hn₀)) h0

/-- A block of cells stands through the turns of blocks that are no cells. -/
theorem ownFrom_blk {β : Type} (B g : Nat) (T : TypeId) (cs : Array Value) : OwnFrom B (fun (_ : β) W => Blk W g T cs) := fun _ W W' row hs hg hr => by
  refine (hg.block g hs.lt (fun e => ?_)).trans hs
  obtain ⟨_, o, ho, hc⟩ := hr g e.symm
  have hs' : W.heap[g]? = some (.cells cs T (0, 0)) := hs
  rw [hs'] at ho
  cases ho
  simp [Obj.isCells] at hc
theorem ownFrom_blk' {β : Type} (B g : Nat) (T : TypeId) (cs : β → Array Value) : OwnFrom B (fun (s : β) W => Blk W g T (cs s)) := fun s W W' row hs hg hr => ownFrom_blk (β := Unit) B g T (cs s) () W W' row hs hg hr
theorem ownFrom_pure {β : Type} (B : Nat) (p : β → Prop) : OwnFrom B (fun (s : β) (_ : World) => p s) := fun _ _ _ _ hs _ _ => hs

theorem keepsFrom_setCell {B : Nat} (W : World) {p : Addr} (hp : p.block < B) (u : Value) : KeepsFrom B W (W.setCell p u) :=
  ⟨by simp [World.setCell], fun k o hB hk _ => (Below.heap_setCell W p u k (by omega)).trans hk⟩

/-! ### How a function is left: marks of loops over an iterator among its deferred calls -/

/-- The mark of a loop over an iterator. -/
def mark (D : Nat) : Deferred := { target := .collected D, args := #[] }

/-- A function that went over iterators is left: what it hands back is read when all marks are taken. -/
theorem leaves_marks {F : Fence} {n : Nat} {P : Program} {fn : Func} {tmps : Array Value} {R : Ending → World → Prop} : ∀ (Ds : List Nat) (w : World), (∀ D ∈ Ds, w.heap[D]? = some (.deferred (some []))) → Ds.Nodup →
    (∀ w', (w'.os = w.os ∧ w'.tape = w.tape ∧ w'.output = w.output ∧ w'.heap.size = w.heap.size ∧ ∀ k, k ∉ Ds → w'.heap[k]? = w.heap[k]?) → LeavesInM F n P fn tmps R [] .returning w') → LeavesInM F n P fn tmps R (Ds.map mark) .returning w := by
  intro Ds
  induction Ds with
  | nil => exact fun w _ _ h => h w ⟨rfl, rfl, rfl, rfl, fun _ _ => rfl⟩
  | cons D Ds ih =>
    intro w hD hnd h
    have hk := hD D (by simp)
    obtain ⟨hnot, hnd'⟩ := List.nodup_cons.1 hnd
    refine ⟨by simp, .inl ⟨D, _, rfl, run_takeDeferred hk, ?_⟩⟩
    have hlt : D < w.heap.size := (Array.getElem?_eq_some_iff.1 hk).1
    refine ih _ (fun D' hD' => ?_) hnd' (fun w' hw' => h w' ?_)
    · have hne : D' ≠ D := fun e => hnot (by rw [← e]; exact hD')
      exact (World.putObj_heap_other (by first | exact hne | exact hne.symm)).trans (hD D' (by simp [hD']))
    · obtain ⟨h1, h2, h3, h4, h5⟩ := hw'
      refine ⟨h1, h2, h3, by rw [h4]; simp [World.putObj], fun k hk => ?_⟩
      have hne : k ≠ D := fun e => hk (by simp [e])
      exact (h5 k (fun h => hk (by simp [h]))).trans (World.putObj_heap_other (by first | exact hne | exact hne.symm))

theorem below_marks {n : Nat} {w w' : World} {Ds : List Nat} (h : w'.os = w.os ∧ w'.tape = w.tape ∧ w'.output = w.output ∧ w'.heap.size = w.heap.size ∧ ∀ k, k ∉ Ds → w'.heap[k]? = w.heap[k]?) (hD : ∀ D ∈ Ds, n ≤ D) : Below n w w' :=
  ⟨h.1, h.2.1, h.2.2.1, Nat.le_of_eq h.2.2.2.1.symm, fun k hk => h.2.2.2.2 k (fun hm => by have := hD k hm; omega)⟩

/-- A function's contract from its body, where the body goes over iterators. -/
theorem calls_of_wp_marks {P : Program} {f : FuncId} {fn : Func} {c : Code} {args : Array Value} {w : World} {R : Ending → World → Prop} (hf : P.funcs[f]? = some fn) (hb : fn.body = some c)
    (h : c.wp P (bodyPostM Fence.wide 9 P fn R) { tmps := args ++ Array.replicate (fn.ntmps - args.size) undef, defers := [] } w) : Calls P f args w R :=
  (callsIn_wide (n := 9)).1 (callsIn_of_wp_marks hf hb trivial (wpIn_wide.2 h) rfl)

/-- A loop over an iterator, met in a plain walk. -/
theorem wp_rangeFunc_own {P : Program} {α : Type} {g : Operand} {ps : Array Tmp} {assign body : Code} {Q : Exit → Act → World → Prop} {a : Act} {w : World}
    {gf : Nat} {lb : Array Value} (hg : a.eval g = .func (.func gf) #[] lb) (eg : ∀ args w, (callFunc gf args).run P w = .ok (.enter gf args) w)
    {encs : α → Array Value} {n₀ : Nat} {S Sp : List α → Prop} {N : Nat} (hseq : SeqStopsK Fence.wide 8 P gf lb encs (Below n₀) S Sp N w) (hn₀ : n₀ ≤ w.heap.size) (hps : ∀ x, (encs x).size = ps.size)
    (I : List α → World → Prop) (Ix : Code → List α → World → Prop) (hI : OwnFrom w.heap.size I) (hIx : ∀ c, OwnFrom w.heap.size (Ix c)) (h0 : I [] w) (a₁ : α → Act)
    (hassign : ∀ (l : Nat) (x : α) (W : World) (K : Act → World → Prop), K (a₁ x) W →
      assign.wpIn (Fence.wide.inRound l) 7 P (Exit.then K (fun _ _ _ => False)) { tmps := (ps.zip (encs x)).foldl (fun t (p, v) => t.setIfInBounds p v) a.tmps, defers := [] } W)
    (hbody : ∀ (l : Nat) (pre : List α) (x : α) (W : World), I pre W → pre.length < N → body.wpIn (Fence.wide.inRound l) 7 P (ownPostG w.heap.size (Below n₀) I Ix (pre ++ [x]) W) (a₁ x) W)
    (hdone : ∀ (D : Nat) (xs : List α) (W : World), w.heap.size ≤ D → S xs → I xs W → W.heap[D]? = some (.deferred (some [])) → Q .normal { a with defers := mark D :: a.defers } W)
    (hstop : ∀ (D : Nat) (c : Code) (pre : List α) (W : World), w.heap.size ≤ D → Sp pre → Ix c pre W → W.heap[D]? = some (.deferred (some [])) → c.wp P Q { a with defers := mark D :: a.defers } W) :
    (Code.rangeFunc g ps assign body).wp P Q a w :=
  (wpIn_wide (n := 9)).1 (wpIn_rangeFunc_ownG rfl (by omega) hg trivial eg hseq belowK_t (belowK_b hn₀) (Below.refl _ _) hps I Ix hI hIx h0 a₁ hassign hbody hdone (fun D c pre W h1 h2 h3 h4 => wpIn_wide.2 (hstop D c pre W h1 h2 h3 h4)))

/-- The same, where nothing is assigned ahead of the body. -/
theorem wp_rangeFunc_skip {P : Program} {α : Type} {g : Operand} {ps : Array Tmp} {body : Code} {Q : Exit → Act → World → Prop} {a : Act} {w : World}
    {gf : Nat} {lb : Array Value} (hg : a.eval g = .func (.func gf) #[] lb) (eg : ∀ args w, (callFunc gf args).run P w = .ok (.enter gf args) w)
    {encs : α → Array Value} {n₀ : Nat} {S Sp : List α → Prop} {N : Nat} (hseq : SeqStopsK Fence.wide 8 P gf lb encs (Below n₀) S Sp N w) (hn₀ : n₀ ≤ w.heap.size) (hps : ∀ x, (encs x).size = ps.size)
    (I : List α → World → Prop) (Ix : Code → List α → World → Prop) (hI : OwnFrom w.heap.size I) (hIx : ∀ c, OwnFrom w.heap.size (Ix c)) (h0 : I [] w)
    (hbody : ∀ (l : Nat) (pre : List α) (x : α) (W : World), I pre W → pre.length < N → body.wpIn (Fence.wide.inRound l) 7 P (ownPostG w.heap.size (Below n₀) I Ix (pre ++ [x]) W) { tmps := (ps.zip (encs x)).foldl (fun t (p, v) => t.setIfInBounds p v) a.tmps, defers := [] } W)
    (hdone : ∀ (D : Nat) (xs : List α) (W : World), w.heap.size ≤ D → S xs → I xs W → W.heap[D]? = some (.deferred (some [])) → Q .normal { a with defers := mark D :: a.defers } W)
    (hstop : ∀ (D : Nat) (c : Code) (pre : List α) (W : World), w.heap.size ≤ D → Sp pre → Ix c pre W → W.heap[D]? = some (.deferred (some [])) → c.wp P Q { a with defers := mark D :: a.defers } W) :
    (Code.rangeFunc g ps .skip body).wp P Q a w :=
  wp_rangeFunc_own hg eg hseq hn₀ hps I Ix hI hIx h0 _ (fun l x W K hK => by
    refine wpIn_skip ?_
    exact hK) hbody hdone hstop
end Go.Proofs.Ytahlphclighccaa.It
