/-
  What PlanOrder says, in plain words: what is to come stands in order; what happened, happened no later than its time; none is lost.
-/
import Derived.Test.YtdinbhanekpjoaaQO
import Derived.Test.YtdinbhanekpjoaaItS
import Derived.Test.YtdinbhanekpjoaaQD
import Derived.Laws.Tables
import Derived.Test.YtdinbhanekpjoaaReg
import Derived.CallsIn
import Derived.TacticsIn
import Derived.Deep.Quiet
import Derived.Deep.RegionHeld
import Derived.RangeFuncCalls
import Derived.Deep.QuietTactic
import Derived.BigQuiet
import Derived.ProofKit
namespace Go.Proofs.Ytdinbhanekpjoaa
open Go.RowKit
namespace Dv
theorem le_begin (D : Dv) (z : Int) : D.n ≤ (D.begin_ z).1.n := by
  rcases R7.begin_fst D z with e | e <;> rw [e]
  · exact Nat.le_refl _
  · exact Nat.le_succ _
theorem le_append (D : Dv) (z : Int) (s : Sec) : D.n ≤ (D.append z s).1.n := by
  unfold append
  split
  · exact le_begin D z
  · split
    · split <;> exact Nat.le_succ _
    · exact Nat.le_refl _
theorem le_read (D : Dv) (z off : Int) : D.n ≤ (D.read z off).1.n := by
  unfold read
  split
  · exact le_begin D z
  · split
    · exact Nat.le_succ _
    · exact Nat.le_refl _
theorem le_answer (D : Dv) (z : Int) (f : Zn Sec → Zn Sec × Int) : D.n ≤ (D.answer z f).1.n := by
  unfold answer
  split
  · exact le_begin D z
  · split
    · exact Nat.le_succ _
    · exact Nat.le_refl _
theorem le_flush (D : Dv) : D.n ≤ D.flush.1.n := by
  unfold flush
  split
  · exact Nat.le_refl _
  · exact Nat.le_succ _
theorem le_revive (D : Dv) (keep : List Int) : D.n ≤ (D.revive keep).n := by
  unfold revive
  split <;> exact Nat.le_refl _
end Dv
namespace Dr
theorem happen_n (X : Dr) (e : EvV) : (X.happen e).D.n = X.D.n := by
  unfold Dr.happen
  split
  · unfold spoil
    split <;> exact spoil_n _ _ _ _
  split
  · exact fail_n _ _ _
  split
  · exact fail_n _ _ _
  split <;> rfl
/-- m events were planned: all are there; what happened is past, what is to come is no earlier than 0. -/
structure Kept (X : Dr) (m : Nat) : Prop where
  sum : X.happened.length + X.coming.length = m
  past : ∀ e ∈ X.happened, e.at_ ≤ (X.D.n : Int)
  pos : ∀ e ∈ X.coming, 0 ≤ e.at_
theorem Kept.due {X : Dr} {m : Nat} (h : X.Kept m) : X.due.Kept m :=
  due_ind (P := fun Y => Y.Kept m) X h (fun Y e l hY hc _ he => by
    refine ⟨(happen_sum Y e l hc).trans hY.sum, ?_, ?_⟩
    · rw [happen_happened, happen_n]
      intro f hf
      rcases List.mem_append.1 hf with h1 | h1
      · exact hY.past f h1
      · rw [List.mem_singleton.1 h1]; exact he
    · rw [happen_coming]
      exact fun f hf => hY.pos f (by rw [hc]; exact List.mem_cons_of_mem _ hf))
theorem Kept.begin {X : Dr} {m : Nat} (h : X.Kept m) (z : Int) : (X.begin_ z).Kept m := by
  unfold begin_
  split
  · exact h.due
  · exact h
theorem Kept.dev {X : Dr} {m : Nat} (h : X.Kept m) {D' : Dv} (hD : X.D.n ≤ D'.n) {M : Marks} : Kept { X with D := D', marks := M } m :=
  ⟨h.sum, fun e he => by have := h.past e he; show e.at_ ≤ (D'.n : Int); omega, h.pos⟩
def planned1 (p : OpP) : Nat := if p.o.kind = 7 ∧ p.e.right = true then 1 else 0
theorem planned1_no {p : OpP} (h : ¬ (p.o.kind = 7 ∧ p.e.right = true)) : planned1 p = 0 := if_neg h
theorem planned1_yes {p : OpP} (h : p.o.kind = 7) (h2 : p.e.right = true) : planned1 p = 1 := if_pos ⟨h, h2⟩
theorem right_pos {e : EvV} (h : e.right = true) : 0 ≤ e.at_ := by
  unfold EvV.right at h
  simp only [Bool.and_eq_true, decide_eq_true_eq] at h
  exact h.1.1
theorem Kept.plan {X : Dr} {m : Nat} (h : X.Kept m) (hm : m < 256) (e : EvV) : (X.plan e).1.Kept (m + if e.right = true then 1 else 0) := by
  unfold Dr.plan
  split
  · rename_i hr
    rw [if_neg (by rw [hr]; simp)]
    exact h
  · rename_i hr
    have hr2 : e.right = true := by simpa using hr
    rw [if_pos hr2, if_neg (by have := h.sum; omega)]
    refine ⟨?_, h.past, fun f hf => ?_⟩
    · show X.happened.length + (insertEv e X.coming).length = _
      rw [insertEv_length]
      have := h.sum
      omega
    · rcases (insertEv_mem e _ f).1 hf with rfl | hf
      · exact right_pos hr2
      · exact h.pos f hf
theorem Kept.play {X : Dr} {m : Nat} (h : X.Kept m) (hm : m < 256) (p : OpP) (h8 : p.o.kind ≠ 8) : (X.play p).Kept (m + planned1 p) := by
  have hb := h.begin p.o.zone
  have hd := h.due
  unfold Dr.play
  split
  · rename_i hk
    rw [planned1_no (by rw [hk]; simp)]
    exact hb.dev (Dv.le_append _ _ _)
  split
  · rename_i hk
    rw [planned1_no (by rw [hk]; simp)]
    exact hb.dev (Dv.le_read _ _ _)
  split
  · rename_i hk
    rw [planned1_no (by rw [hk]; simp)]
    exact hb.dev (Dv.le_answer _ _ _)
  split
  · rename_i hk
    rw [planned1_no (by rw [hk]; simp)]
    exact hb.dev (Dv.le_answer _ _ _)
  split
  · rename_i hk
    rw [planned1_no (by rw [hk]; simp)]
    exact hd.dev (Dv.le_flush _)
  split
  · rename_i hk
    rw [planned1_no (by rw [hk]; simp)]
    exact h.dev (Dv.le_revive _ _)
  split
  · rename_i hk
    have h2 := h.plan hm p.e
    have e : planned1 p = if p.e.right = true then 1 else 0 := by unfold planned1; rw [hk]; simp
    rw [e]
    exact h2
  · rename_i hk
    rw [planned1_no (fun h => hk h.1)]
    exact h
theorem Kept.made (k : Nat) (size op : Int) : (DV.Dr.made k size op).Kept 0 := ⟨rfl, fun e he => by simp [DV.Dr.made] at he, fun e he => by simp [DV.Dr.made] at he⟩
def plannedTo (ps : List OpP) (k : Nat) : Nat := ((ps.take k).map planned1).sum
theorem plannedTo_zero (ps : List OpP) : plannedTo ps 0 = 0 := rfl
theorem plannedTo_succ (ps : List OpP) (k : Nat) (hk : k < ps.length) : plannedTo ps (k + 1) = plannedTo ps k + planned1 ps[k] := by
  unfold plannedTo
  rw [List.take_succ_eq_append_getElem hk, List.map_append, List.sum_append]
  simp only [List.map_cons, List.map_nil, List.sum_cons, List.sum_nil, Nat.add_zero]
theorem plannedTo_le (ps : List OpP) (k : Nat) : plannedTo ps k ≤ k := by
  have h : ∀ l : List OpP, (l.map planned1).sum ≤ l.length := by
    intro l
    induction l with
    | nil => exact Nat.le_refl _
    | cons p l ih =>
      have h1 : planned1 p ≤ 1 := by unfold planned1; split <;> omega
      simp
      omega
  unfold plannedTo
  exact Nat.le_trans (h _) (by simp; omega)
/-- The time of the last that came; -1 ahead of them. -/
def lastOf (L : List EvV) (pre : List (Fin L.length)) : Int := match pre.getLast? with
  | none => -1
  | some y => L[y.1].at_
theorem lastOf_nil (L : List EvV) : lastOf L [] = -1 := rfl
theorem lastOf_snoc (L : List EvV) (pre : List (Fin L.length)) (x : Fin L.length) : lastOf L (pre ++ [x]) = L[x.1].at_ := by
  unfold lastOf
  rw [List.getLast?_concat]
/-- In a sorted row none is earlier than the one ahead of it. -/
theorem lastOf_le {L : List EvV} (hs : Sorted8 L) (hp : ∀ e ∈ L, 0 ≤ e.at_) {k : Nat} (hk : k ≤ L.length) {pre : List (Fin L.length)} {x : Fin L.length} (h : ItS.upto L.length k = pre ++ [x]) : lastOf L pre ≤ L[x.1].at_ := by
  have hx := ItS.upto_last hk h
  have hl : k = pre.length + 1 := by have := congrArg List.length h; rw [ItS.upto_length hk] at this; simpa using this
  have hpre : pre = ItS.upto L.length pre.length := by
    have := congrArg (List.take pre.length) h
    rw [List.take_left] at this
    rw [← this]
    unfold ItS.upto
    rw [List.take_take, show min pre.length k = pre.length by omega]
    simp
  by_cases h0 : pre.length = 0
  · rw [List.length_eq_zero_iff.1 h0, lastOf_nil]
    have := hp _ (List.getElem_mem x.2)
    omega
  · obtain ⟨j, hj⟩ : ∃ j, pre.length = j + 1 := ⟨pre.length - 1, by omega⟩
    have hjL : j < L.length := by omega
    rw [hpre, hj, ItS.upto_succ hjL, lastOf_snoc]
    exact List.pairwise_iff_getElem.1 hs j x.1 hjL x.2 (by omega)
end Dr
end Go.Proofs.Ytdinbhanekpjoaa

/-
  The beginning of a law's loop, where the drive lies in a box of its own.
-/
namespace Go.Proofs.Ytdinbhanekpjoaa
open Go.RowKit
section
variable {w w1 w2 wr : World} {E E' : Nat → Prop} {g q d : Nat} {X : Dr}
theorem Rel8.start3 {A' : Option Addr} {c' : Nat} {Ac' : Option Addr} {cc' : Nat} {Ah' : Option Addr} {ch' : Nat} (hB : Below w.heap.size w w1) (h : Begun8 w1 q d X A' c' Ac' cc' Ah' ch' w2) (o : Obj) : Rel8 w (fun k => (w.heap.size ≤ k ∧ k < w1.heap.size) ∨ k = w2.heap.size) (w2.heap.size + 1) q d X ((w2.alloc o).alloc (.cells #[.slice A' X.D.zs.length c', .int .i64 X.D.size, .int .i64 X.D.op, .int .i64 (X.D.n : Int), .bool X.D.down, .slice Ac' X.coming.length cc', .slice Ah' X.happened.length ch'] 62)) := by
  obtain ⟨F, G, es', hT, hb2, hF, hG⟩ := h
  have s1 := hB.size
  have s2 := hb2.size
  have hlt := hT.lt
  have hb := ((Below.refl w2.heap.size w2).alloc (Nat.le_refl _) o).alloc (by simp) (.cells #[.slice A' X.D.zs.length c', .int .i64 X.D.size, .int .i64 X.D.op, .int .i64 (X.D.n : Int), .bool X.D.down, .slice Ac' X.coming.length cc', .slice Ah' X.happened.length ch'] 62)
  have hm := Mods.of_below hb (fun _ => False)
  have hz : ((w2.alloc o).alloc (.cells #[.slice A' X.D.zs.length c', .int .i64 X.D.size, .int .i64 X.D.op, .int .i64 (X.D.n : Int), .bool X.D.down, .slice Ac' X.coming.length cc', .slice Ah' X.happened.length ch'] 62)).heap.size = w2.heap.size + 2 := by rw [World.size_alloc, World.size_alloc]
  have hblk := Blk.new (w2.alloc o) 62 #[.slice A' X.D.zs.length c', .int .i64 X.D.size, .int .i64 X.D.op, .int .i64 (X.D.n : Int), .bool X.D.down, .slice Ac' X.coming.length cc', .slice Ah' X.happened.length ch']
  rw [World.size_alloc] at hblk
  exact ⟨F, G, A', c', es', Ac', cc', Ah', ch', ⟨hT.drv.mods hm (fun _ _ h => h), hT.ref.below hb, hT.apart, fun k hk => by have := hT.old k hk; omega⟩, hblk, fun hk => by have := hlt _ hk; omega, fun hk => by have := hT.old _ hk; omega, fun h => by omega, fun k hk => by have := hF k hk; omega, fun k hk => by have := hG k hk; omega, fun k hk => ⟨fun h => by have := hF k h; have := hlt k h; omega, fun h => by have := hG k h; have := hT.old k h; omega, by omega⟩, ((hB.trans (hb2.mono s1)).trans (hb.mono (by omega))), by omega⟩
theorem Rel8.sub3 (h : Rel8 w E g q d X wr) (hE : ∀ k, E' k → E k) : Rel8 w E' g q d X wr := by
  obtain ⟨F, G, A', c', es', Ac', cc', Ah', ch', hT, hg, a1, a2, a3, a4, a5, a6, a7, a8⟩ := h
  exact ⟨F, G, A', c', es', Ac', cc', Ah', ch', hT, hg, a1, a2, fun h => a3 (hE _ h), a4, a5, fun k hk => a6 k (hE k hk), a7, a8⟩
end
end Go.Proofs.Ytdinbhanekpjoaa

/-
  slices.Values over a slice of events: its contract.
-/
namespace Go.Proofs.Ytdinbhanekpjoaa.ItV
open Go.RowKit Go.Shelf

attribute [local go_sem] Oper.semAt_some

abbrev encs (zs : List EvV) (j : Fin zs.length) : Array Value := #[.agg zs[j.1].cells.toArray]
/-- The slice value .slice A n c holds the events zs, in a block below n₀. -/
def EvsIn (n₀ : Nat) (W : World) (A : Option Addr) (zs : List EvV) : Prop :=
  ∀ j (h : j < zs.length), ∃ b, A = some ⟨b, 0, none⟩ ∧ b < n₀ ∧ W.rangeAt b (j * 68) zs[j].cells
theorem EvsIn.below {n₀ : Nat} {X Y : World} (h : Below n₀ X Y) {A : Option Addr} {zs : List EvV} (hi : EvsIn n₀ X A zs) : EvsIn n₀ Y A zs := fun j hj => by
  obtain ⟨b, e, hb, hc⟩ := hi j hj
  exact ⟨b, e, hb, ItS.range_below h hb hc⟩
theorem EvsIn.of_own {w : World} {A : Option Addr} {c n₀ : Nat} {zs : List EvV} {e : TypeId} (h : w.ownsRow 0 e 68 (.slice A zs.length c) zs.length (zs.flatMap EvV.cells)) (hb : ∀ g, blkOf A = some g → g < n₀) : EvsIn n₀ w A zs := fun j hj => by
  obtain ⟨b, off, hA, -, -, hr⟩ := (Evs.of_own (G := fun _ => True) h (fun _ _ => trivial)).at_ hj
  have hoff : off = 0 := by
    rcases h.2 with ⟨h', h0⟩ | ⟨g', cap, cur, h', _⟩
    · omega
    · simp only [Value.slice.injEq] at h'
      rw [hA] at h'
      simp only [Option.some.injEq, Addr.mk.injEq] at h'
      exact h'.1.2.1
  subst hoff
  rw [Nat.zero_add] at hr
  exact ⟨b, hA, hb b (by rw [hA]; rfl), hr⟩

set_option maxRecDepth 100000 in
set_option maxHeartbeats 2000000 in
/-- slices.Values's closure, for every loop body that keeps what lay below n₀. -/
theorem values1_in (F : Fence) (n : Nat) (h8 : F.fn 96) (hro : F.round = none) (hn : 1 ≤ n) (l Bs n₀ : Nat) (A : Option Addr) (cap : Nat) (zs : List EvV) (hreach : zs.length ≤ 65536) (J Jx : List (Fin zs.length) → World → Prop)
    (hJ : ∀ s W W', J s W → Below W.heap.size W W' → J s W')
    (hY : ∀ pre x W, J pre W → pre.length < zs.length → YieldAt F (n - 1) Try.prog l (encs zs x) W fun e W' =>
      (e = .returned (.bool true) ∧ J (pre ++ [x]) W' ∧ Below n₀ W W') ∨ (e = .returned (.bool false) ∧ Jx (pre ++ [x]) W'))
    (W : World) (hn₀ : n₀ ≤ W.heap.size) (hBs : W.cell? ⟨Bs, 0, none⟩ = some (.slice A zs.length cap)) (hc : EvsIn n₀ W A zs) (h0 : J [] W) :
    CallsIn F n Try.prog 96 #[.func (.yield l) #[] #[], .pointer (some ⟨Bs, 0, none⟩)] W fun e W' => (∃ v, e = .returned v) ∧
      ((∃ ys, ys = ItS.upto zs.length zs.length ∧ J ys W') ∨ (∃ pre, (∃ k, k ≤ zs.length ∧ pre = ItS.upto zs.length k) ∧ Jx pre W')) := by
  refine callsIn_of_wp Try.func96 rfl h8 ?_ hro
  simp only [Try.ntmps96, List.size_toArray, List.length_cons, List.length_nil, Nat.reduceAdd, Nat.reduceSub, Array.replicate_succ, Array.replicate_zero, List.push_toArray, List.append_toArray, List.nil_append, List.cons_append]
  have hc' := hide hc
  have hY' := hide hY
  have hJ' := hide hJ
  clear hc hY hJ
  gi_wp2
  gi_loopw [7] (fun i wr => ∃ k : Nat, k ≤ zs.length ∧ i = .int .i64 k ∧ J (ItS.upto zs.length k) wr ∧ Below n₀ W wr)
    (fun i _ => zs.length - (intOf i).toNat)
  case atStart => exact ⟨0, Nat.zero_le _, rfl, by rw [ItS.upto_zero]; exact h0, Below.refl _ _⟩
  case round =>
    obtain ⟨k, hk, rfl, hJs, hnx⟩ := hrel
    by_cases hlt : k < zs.length
    · obtain ⟨b, rfl, hb, hcell⟩ := hc'.out k hlt
      have Hcx := hide (ItS.range_below hnx hb hcell)
      have hsz : n₀ ≤ wr.heap.size := Nat.le_trans hn₀ hnx.size
      have HZ := hide (Blk.new wr 66 EvV.zero.cells.toArray)
      have hbY : Below wr.heap.size wr ((wr.alloc (.cells EvV.zero.cells.toArray 66)).setRow wr.heap.size zs[k].cells.toArray) := below_setRow ((Below.refl _ wr).alloc (Nat.le_refl _) _) (Nat.le_refl _) _
      have hkx := HZ.out.setRow zs[k].cells.toArray
      clear hcell
      gi_upto_region 3 with (first | ((with_reducible refine ItS.wpListIn_load_mid ?g1 66 (.tmp 9) ?o1 b (k * 68) ?x1 zs[k].cells ?d1 ?r1 ?u1 ?f1 ?i1 ?_); (case g1 => exact rfl); (case o1 => exact rfl); (case x1 => exact rfl); (case r1 => exact Hcx.out); (case u1 => exact Try.underlying66); (case f1 => exact rfl); (case i1 => exact Ev.size _)) | ((with_reducible refine ItS.wpListIn_store_row ?g2 66 (.tmp 4) (.tmp 10) ?o2 wr.heap.size zs[k].cells.toArray ?x2 ?y2 66 EvV.zero.cells.toArray ?k2 ?s2 ?l2 ?a2 ?_); (case g2 => exact rfl); (case o2 => exact rfl); (case x2 => exact rfl); (case y2 => exact rfl); (case k2 => exact HZ.out); (case s2 => exact Ev.sizeR _); (case l2 => simp [EvV.length]); (case a2 => exact EvV.all _)))
      generalize hWA : World.setRow (World.alloc wr _) _ _ = wa
      have hWA' : (wr.alloc (.cells EvV.zero.cells.toArray 66)).setRow wr.heap.size zs[k].cells.toArray = wa := hWA
      rw [hWA'] at hbY hkx
      clear hWA hWA' HZ Hcx
      have hJa := hJ'.out _ _ _ hJs hbY
      have Hbn := hide (hnx.trans (hbY.mono hsz))
      have Hkx := hide hkx
      obtain ⟨fn, tmps, assign, body, hy, hR⟩ := hY'.out _ ⟨k, hlt⟩ wa hJa (by rw [ItS.upto_length hk]; exact hlt)
      dsimp only [encs] at hy
      clear hbY hkx hJa hJs hnx
      gi_wp2_with ((with_reducible refine ItS.wpListIn_load_mid ?g3 66 (.tmp 4) ?o3 wr.heap.size 0 ?x3 zs[k].cells ?d3 ?r3 ?u3 ?f3 ?i3 ?_); (case g3 => exact rfl); (case o3 => exact rfl); (case x3 => exact rfl); (case r3 => exact zs[k].range Hkx.out); (case u3 => exact Try.underlying66); (case f3 => exact rfl); (case i3 => exact Ev.size _))
      refine hR.mono ?_
      rintro e W3 (⟨rfl, hJ3, hk3⟩ | ⟨rfl, hJx3⟩)
      · gi_wp2
        go_roundw
        case rel => exact ⟨k + 1, by omega, by simp, by rw [ItS.upto_succ hlt]; exact hJ3, Hbn.out.trans hk3⟩
        case measure => simp [intOf]; omega
      · gi_wp2
        refine bodyPost_ret (results_none rfl _ _ _) rfl ?_
        exact ⟨⟨_, rfl⟩, .inr ⟨_, ⟨k + 1, by omega, (ItS.upto_succ hlt).symm⟩, hJx3⟩⟩
    · obtain rfl : k = zs.length := by omega
      gi_wp2
      go_end0
      exact ⟨⟨_, rfl⟩, .inl ⟨_, rfl, hJs⟩⟩

/-- slices.Values(s) hands back a value that goes over the indexes and what stands there: all; or the first k of them. -/
theorem values_stops (F : Fence) (n : Nat) (h8 : F.fn 96) (hro : F.round = none) (hn : 1 ≤ n) (Bs n₀ : Nat) (A : Option Addr) (cap : Nat) (zs : List EvV) (hreach : zs.length ≤ 65536) (w : World) (hBs : Bs < w.heap.size) (hn₀ : n₀ ≤ w.heap.size)
    (hc : w.cell? ⟨Bs, 0, none⟩ = some (.slice A zs.length cap)) (hI : EvsIn n₀ w A zs) :
    SeqStopsK F n Try.prog 96 #[.pointer (some ⟨Bs, 0, none⟩)] (encs zs) (Below n₀) (fun ys => ys = ItS.upto zs.length zs.length)
      (fun pre => ∃ k, k ≤ zs.length ∧ pre = ItS.upto zs.length k) zs.length w := fun l J Jx W hW hJ _ hY h0 => by
  have hc' := (hW.cell (p := ⟨Bs, 0, none⟩) hBs).trans hc
  exact values1_in F n h8 hro hn l Bs n₀ A cap zs hreach J Jx (fun s W W' hs hb => hJ s W W' none hs ⟨hb.os, hb.tape, hb.output, hb.size, fun k hk _ => hb.block k hk⟩ (fun r e => by cases e)) hY W (Nat.le_trans hn₀ hW.size) hc' (hI.below (hW.mono hn₀)) h0


set_option maxHeartbeats 400000 in
theorem values_any (A : Option Addr) (n c : Nat) (w : World) :
    Calls Try.prog 80 #[.slice A n c] w fun e w' => e = .returned (.func (.func 96) #[] #[.pointer (some ⟨w.heap.size, 0, none⟩)]) ∧ w.alloc (.cells #[.slice A n c] 118) = w' := by
  go_enter Try.func80, Try.ntmps80
  go_wp2
  go_ret
  exact ⟨rfl, rfl⟩
section
variable {w : World} {q d : Nat} {X : Dr} {F FD : Nat → Prop} {A : Option Addr} {c : Nat} {bs : List Nat} {Fs : Nat → Nat → Prop} {mb n : Nat} {Ac : Option Addr} {cc : Nat} {Ah : Option Addr} {ch : Nat}
set_option maxHeartbeats 400000 in
theorem coming_any (h : DrvIs w q d X F FD A c bs Fs mb n Ac cc Ah ch) : Calls Try.prog 38 #[.pointer (some ⟨q, 0, none⟩)] w fun e w' => e = .returned (.func (.func 96) #[] #[.pointer (some ⟨w.heap.size, 0, none⟩)]) ∧ w.alloc (.cells #[.slice Ac X.coming.length cc] 118) = w' := by
  obtain ⟨c0, c1, -⟩ := h.cells
  clear h
  go_enter Try.func38, Try.ntmps38
  go_wp2_with (go_at_call 80; refine (values_any _ _ _ _).mono ?_; rintro e w' ⟨rfl, rfl⟩)
  go_ret
  exact ⟨rfl, rfl⟩
set_option maxHeartbeats 400000 in
theorem happened_any (h : DrvIs w q d X F FD A c bs Fs mb n Ac cc Ah ch) : Calls Try.prog 39 #[.pointer (some ⟨q, 0, none⟩)] w fun e w' => e = .returned (.func (.func 96) #[] #[.pointer (some ⟨w.heap.size, 0, none⟩)]) ∧ w.alloc (.cells #[.slice Ah X.happened.length ch] 118) = w' := by
  obtain ⟨c0, c1, c2, -⟩ := h.cells
  clear h
  go_enter Try.func39, Try.ntmps39
  go_wp2_with (go_at_call 80; refine (values_any _ _ _ _).mono ?_; rintro e w' ⟨rfl, rfl⟩)
  go_ret
  exact ⟨rfl, rfl⟩
end
end Go.Proofs.Ytdinbhanekpjoaa.ItV

/-
  Zero events and sectors, built out of nothing; an operation that is wanted, in a list of operations.
-/
namespace Go.Proofs.Ytdinbhanekpjoaa
open Go.RowKit
theorem wpList_wanted {P : Program} {ops : Array Oper} {rest : List Oper} {o : Oper} {a : Act} {w : World} {Q : Exit → Act → World → Prop} (hw : Region.wanted o (yielded ops a.tmps) = true) {v : Value} (hv : (execOp a.eval o).run P w = .ok (.value v) w)
    (h : wpList P ops Q rest (a.put o.dst v) w) : wpList P ops Q (o :: rest) a w := by
  unfold wpList
  rw [if_pos hw]
  left
  unfold Oper.wp
  rw [hv]
  exact h
theorem wpList_stepG {P : Program} {ops : Array Oper} {rest : List Oper} {o : Oper} {a : Act} {w : World} {Q : Exit → Act → World → Prop} (hw : Region.wanted o (yielded ops a.tmps) = true) {v : Value} (hv : (execOp a.eval o).run P w = .ok (.value v) w)
    (h : ∀ K : Act → Prop, (∀ a, wpList P ops Q rest a w → K a) → K (a.put o.dst v)) : wpList P ops Q (o :: rest) a w :=
  wpList_wanted hw hv (h _ (fun _ h => h))
theorem run_build_ev0 (w : World) : (Instr.build 66 #[]).run Try.prog w = .ok (.agg EvV.zero.cells.toArray) w :=
  run_build w _ _ _ (by kernel_rfl)
theorem run_build_sec0 (w : World) : (Instr.build 34 #[]).run Try.prog w = .ok (.agg Sec.zero.cs.toArray) w :=
  run_build w _ _ _ (by kernel_rfl)
theorem run_field_ev0 (w : World) : (Instr.field 66 (.agg EvV.zero.cells.toArray) 4).run Try.prog w = .ok (.agg Sec.zero.cs.toArray) w := by
  kernel_rfl
theorem exec_build_ev0 {w : World} {a : Act} {o : Oper} (ho : o.op = .build 66 #[]) : (execOp a.eval o).run Try.prog w = .ok (.value (.agg EvV.zero.cells.toArray)) w := by
  unfold execOp
  simp only [ho, List.map_toArray, List.map_nil, Sem.run_bind, run_build_ev0 w, Result.andThen_ok, Sem.run_pure]
theorem exec_build_sec0 {w : World} {a : Act} {o : Oper} (ho : o.op = .build 34 #[]) : (execOp a.eval o).run Try.prog w = .ok (.value (.agg Sec.zero.cs.toArray)) w := by
  unfold execOp
  simp only [ho, List.map_toArray, List.map_nil, Sem.run_bind, run_build_sec0 w, Result.andThen_ok, Sem.run_pure]
theorem exec_field_ev0 {w : World} {a : Act} {o : Oper} {x : Operand} (ho : o.op = .field 66 x 4) (hx : a.eval x = .agg EvV.zero.cells.toArray) : (execOp a.eval o).run Try.prog w = .ok (.value (.agg Sec.zero.cs.toArray)) w := by
  unfold execOp
  simp only [ho, hx, Sem.run_bind, run_field_ev0 w, Result.andThen_ok, Sem.run_pure]
theorem exec_load_row {P : Program} {w : World} {a : Act} {o : Oper} (ty : TypeId) (x : Operand) (ho : o.op = .load ty x) (b off : Nat) (hx : a.eval x = .pointer (some ⟨b, off, none⟩)) (cs : List Value) (d : TypeDesc)
    (hr : w.rangeAt b off cs) (hu : P.underlying ty = some d) (hd : d.isRow = true) (hi : (P.info? ty).map (·.size) = some cs.length) : (execOp a.eval o).run P w = .ok (.value (.agg cs.toArray)) w := by
  simp only [execOp, ho, hx, Sem.run_bind, run_loadAt_mid w b off ty cs d hr hu hd hi, Result.andThen_ok, Sem.run_pure]
end Go.Proofs.Ytdinbhanekpjoaa

/-
  A region that draws its order and holds no call of a function of the text's own, inside a fence, in a round too: what is shown of it by the plain walk holds there. Nothing here speaks of the program.
-/
namespace Go.Proofs.Ytdinbhanekpjoaa.InRound
open Go

section
variable {P : Program} {F : Fence} {n : Nat}
/-- An operation that calls nothing and defers nothing. -/
def plainB (o : Oper) : Bool :=
  match o.op with
  | .move _ | .assign _ | .pick _ _ _ | .load _ _ | .store _ _ _ | .binOp _ _ _ _ _ | .unOp _ _ _ | .fieldAddr _ _ _ | .indexAddr _ _ _ => true
  | .call { callee := .builtin .len, args := _, argTypes := _ } => true
  | _ => false

theorem run_value {s : Sem Value} {w : World} : (∃ v w', (do pure (Next.value (← s)) : Sem Next).run P w = .ok (.value v) w') ∨ (∃ h w', (do pure (Next.value (← s)) : Sem Next).run P w = .halt h w') := by
  cases hs : s.run P w with
  | ok v w' => exact .inl ⟨v, w', by simp [hs, Result.andThen]⟩
  | halt h w' => exact .inr ⟨h, w', by simp [hs, Result.andThen]⟩
theorem run_unit {s : Sem Unit} {w : World} : (∃ w', (do s; pure Next.skip : Sem Next).run P w = .ok .skip w') ∨ (∃ h w', (do s; pure Next.skip : Sem Next).run P w = .halt h w') := by
  cases hs : s.run P w with
  | ok v w' => exact .inl ⟨w', by simp [hs, Result.andThen]⟩
  | halt h w' => exact .inr ⟨h, w', by simp [hs, Result.andThen]⟩

/-- What a plain operation comes to. -/
theorem exec_plain {o : Oper} (h : plainB o = true) (ρ : Operand → Value) (w : World) :
    (∃ v w', (execOp ρ o).run P w = .ok (.value v) w') ∨ (∃ w', (execOp ρ o).run P w = .ok .skip w') ∨ (∃ h w', (execOp ρ o).run P w = .halt h w') := by
  unfold plainB at h
  have up : ∀ {s : Sem Next}, ((∃ v w', s.run P w = .ok (.value v) w') ∨ (∃ h w', s.run P w = .halt h w')) → (∃ v w', s.run P w = .ok (.value v) w') ∨ (∃ w', s.run P w = .ok .skip w') ∨ (∃ h w', s.run P w = .halt h w') := fun h => h.imp id .inr
  unfold execOp
  split at h <;> rename_i ho <;> simp only [ho]
  · exact .inl ⟨_, _, rfl⟩
  · exact .inl ⟨_, _, rfl⟩
  · exact up (by
      rename_i c a b
      cases hs : (asBool (ρ c)).run P w with
      | ok v w' => exact .inl ⟨if v = true then ρ a else ρ b, w', by simp only [Sem.run_bind, hs, Result.andThen, Sem.run_pure]⟩
      | halt h w' => exact .inr ⟨h, w', by simp only [Sem.run_bind, hs, Result.andThen]⟩)
  · exact up run_value
  · exact .inr (run_unit.imp id id)
  · exact up run_value
  · exact up run_value
  · exact up run_value
  · exact up run_value
  · simp only [resolve, invoke, builtin, Sem.run_bind, Sem.run_pure, Result.andThen_ok]
    generalize Sem.run P (Builtin.len_ _ _ _) w = r
    cases r with
    | ok v w' => exact .inl ⟨v, w', rfl⟩
    | halt h w' => exact .inr (.inr ⟨h, w', rfl⟩)
  · cases h

theorem about_plain {o : Oper} (h : plainB o = true) (w : World) (ρ : Operand → Value) : ∀ f, o.about P w ρ = some f → F.fn f := by
  intro f hf
  unfold plainB at h
  split at h <;> rename_i ho <;> simp [Oper.about, ho, resolve, Target.leads] at hf h
theorem noDefer_plain {o : Oper} (h : plainB o = true) : ∀ c, o.op ≠ .defer c := by
  intro c hc
  unfold plainB at h
  rw [hc] at h
  cases h

/-- Only the way on. -/
def Only (Q : Exit → Act → World → Prop) : Exit → Act → World → Prop
  | .normal, a, w => Q .normal a w
  | _, _, _ => False
theorem Only.normal {Q : Exit → Act → World → Prop} {a : Act} {w : World} (h : Q .normal a w) : Only Q .normal a w := h

theorem wpIn_of_wp {o : Oper} (h : plainB o = true) {a : Act} {w : World} {K K' : Act → World → Prop} {Q : Exit → Act → World → Prop} (hK : ∀ a w, K a w → K' a w) (hw : o.wp P a w K (Only Q)) : o.wpIn F n P a w K' Q := by
  refine ⟨about_plain h w a.eval, ?_⟩
  rw [Oper.semAt_eq _ _ _ (noDefer_plain h)]
  unfold Oper.wp at hw
  rcases exec_plain (P := P) h a.eval w with ⟨v, w', e⟩ | ⟨w', e⟩ | ⟨x, w', e⟩
  · rw [e] at hw ⊢; exact hK _ _ hw
  · rw [e] at hw ⊢; exact hK _ _ hw
  · rw [e] at hw ⊢
    cases x <;> first | exact hw.elim | (simp only [Oper.upon, Only] at hw)

theorem opsIn_of_ops {ops : Array Oper} {Q : Exit → Act → World → Prop} (hp : ops.all plainB = true) : ∀ (l : List Nat) (a : Act) (w : World), wpOps P ops (Only Q) l a w → wpOpsIn F n P ops Q l a w
  | [], _, _, h => h
  | i :: rest, a, w, h => by
    unfold wpOps at h
    unfold wpOpsIn
    cases ho : ops[i]? with
    | none => simp only [ho] at h ⊢; exact opsIn_of_ops hp rest a w h
    | some o =>
      simp only [ho] at h ⊢
      have hpo : plainB o = true := (Array.all_eq_true_iff_forall_mem.1 hp) o (Array.mem_of_getElem? ho)
      by_cases hw : Region.wanted o (yielded ops a.tmps) = true
      · rw [if_pos hw] at h ⊢
        rcases h with h | ⟨_, a', w', h⟩
        · exact wpIn_of_wp hpo (fun a w h => opsIn_of_ops hp rest a w h) h
        · exact h.elim
      · rw [if_neg hw] at h ⊢
        exact ⟨about_plain hpo w a.eval, opsIn_of_ops hp rest _ w h⟩

end
end Go.Proofs.Ytdinbhanekpjoaa.InRound
namespace Go.Proofs.Ytdinbhanekpjoaa.Reg
open Go
section
variable {P : Program} {Q : Exit → Act → World → Prop}
theorem any_of_reads {a : Act} {w : World} {l : List Oper} (S : World → Prop) (n m : Nat) (_hf : P.follows .mixedOrders = true) (hB : readsB l.toArray n m = true)
    (hQ : ∀ c a d v w, Q (.panic c) (a.put d v) w → Q (.panic c) a w) (hS : S { w with drawn := w.drawn + 1 })
    (h : wpReads P l.toArray S (fun a' => wpTail P l.toArray Q S m (l.drop n) n a' { w with drawn := w.drawn + 1 }) (l.take n) a) : wpAny P .any l.toArray Q l.toArray.size (Array.replicate l.toArray.size false) a { w with drawn := w.drawn + 1 } := by
  simp only [readsB, Bool.and_eq_true, decide_eq_true_eq] at hB
  obtain ⟨⟨⟨⟨⟨hsel, hnm⟩, hm⟩, hs⟩, hc⟩, hlex⟩ := hB
  have hml : m < l.length := by simpa using hm
  have htl : (l.take n).length = n := by simp; omega
  have hdl : (l.drop n).length = l.toArray.size - n := by simp
  have inv0 : HeadInv .any l.toArray m (Array.replicate l.toArray.size false) :=
    ⟨by simp, fun j oj _ hl => (by rw [getD_replicate_false] at hl; cases hl), fun t _ ht => getD_in (by simpa using ht) (getD_replicate_false _ _)⟩
  refine (wpAny_of_R (S := S) (m := m) _ _ _ _ ?_)
  have H := wpAnyR_lex (md := .any) (n := n) (g := l.toArray.size - n) hsel hs hc hm hnm hQ hS (T := fun a' => wpTail P l.toArray Q S m (l.drop n) n a' { w with drawn := w.drawn + 1 })
    (fun listed a hb ht => by rw [← hdl] at hb ⊢; exact wpAnyR_seq (l.drop n) n listed a _ (fun j => by simp [List.getElem?_drop]) hb ht)
    (l.take n) 0 (Array.replicate l.toArray.size false) a (fun j hj => by
      have hj' : j < n := by rw [htl] at hj; exact hj
      simp [hj']) (by simpa using htl) inv0 (by rw [htl]; exact hlex) h
  have e : (l.take n).length + (l.toArray.size - n) = l.toArray.size := by rw [htl]; simp; omega
  rwa [e] at H

end
end Go.Proofs.Ytdinbhanekpjoaa.Reg
namespace Go.Proofs.Ytdinbhanekpjoaa.InRound
open Go
section
variable {P : Program} {F : Fence} {n : Nat}
/-- A guarded operation that reads whole cells. -/
theorem wpReads_loadG {ops : Array Oper} {S : World → Prop} {T : Act → Prop} {a : Act} {o : Oper} {rest : List Oper} (hw : Region.wanted o (yielded ops a.tmps) = true) (ty : TypeId) (x : Operand) (ho : o.op = .load ty x) (b off : Nat) (hx : a.eval x = .pointer (some ⟨b, off, none⟩)) (cs : List Value) (d : TypeDesc)
    (hS : ∀ w, S w → w.rangeAt b off cs) (hu : P.underlying ty = some d) (hd : d.isRow = true) (hi : (P.info? ty).map (·.size) = some cs.length) (h : ∀ K : Act → Prop, (∀ a, Reg.wpReads P ops S T rest a → K a) → K (a.put o.dst (.agg cs.toArray))) : Reg.wpReads P ops S T (o :: rest) a :=
  Reg.wpReads_stepG hw (fun w hw => by
    simp only [execOp, ho, hx, Sem.run_bind, run_loadAt_mid w b off ty cs d (hS w hw) hu hd hi, Result.andThen_ok, Sem.run_pure]) h
/-- A guarded operation that is not wanted. -/
theorem wpReads_skip {ops : Array Oper} {S : World → Prop} {T : Act → Prop} {a : Act} {o : Oper} {rest : List Oper} (hw : Region.wanted o (yielded ops a.tmps) = false) (h : ∀ K : Act → Prop, (∀ a, Reg.wpReads P ops S T rest a → K a) → K (a.put o.dst undef)) : Reg.wpReads P ops S T (o :: rest) a :=
  ⟨undef, .inr ⟨hw, rfl⟩, h _ (fun _ h => h)⟩
/-- Reg.wp_region_reads in a fence. -/
theorem wpIn_region_reads {id : Nat} {a : Act} {w : World} {l : List Oper} {Q : Exit → Act → World → Prop} (S : World → Prop) (k m : Nat) (hf : P.follows .mixedOrders = true) (hp : l.toArray.all plainB = true) (hB : Reg.readsB l.toArray k m = true) (hS : S w.drew)
    (h : Reg.wpReads P l.toArray S (fun a' => Reg.wpTail P l.toArray (Only Q) S m (l.drop k) k a' w.drew) (l.take k) a) : (Code.region id l.toArray true).wpIn F n P Q a w := by
  refine wpIn_region_draw fun t => ?_
  simp only [Region.schedule, hf, Bool.true_or, if_true]
  exact opsIn_of_ops hp _ _ _ (wpAny_sound l.toArray.size t _ a _ (Reg.any_of_reads S k m hf hB (fun _ _ _ _ _ h => h.elim) hS h))
end
end Go.Proofs.Ytdinbhanekpjoaa.InRound

/-
  A region that draws its order and may hold calls, in a round of a loop over an iterator under the wide fence: what the laws of plain walks show of it holds there. Nothing here speaks of the program.
-/
namespace Go.Proofs.Ytdinbhanekpjoaa.InRound
open Go

section
variable {P : Program} {n l : Nat}
/-- An operation that defers nothing. -/
def lastsB (o : Oper) : Bool :=
  match o.op with
  | .defer _ => false
  | _ => true
theorem noDefer_lasts {o : Oper} (h : lastsB o = true) : ∀ c, o.op ≠ .defer c := by
  intro c hc
  unfold lastsB at h
  rw [hc] at h
  cases h
theorem rowsIn_of_rows {row : String} {args : Array Value} {w : World} {R : Value → World → Prop} (h : Rows P row args w R) : RowsIn (Fence.wide.inRound l) n P row args w R :=
  fun c cs _ => let ⟨v, w', r, s⟩ := h c cs; ⟨v, w', r, stepsIn_wide.2 s⟩
theorem uponIn_of_upon {o : Oper} {a : Act} {K K' : Act → World → Prop} {Q : Exit → Act → World → Prop} (hK : ∀ a w, K a w → K' a w) {r : Result Next} (h : o.upon P a K (Only Q) r) : o.uponIn (Fence.wide.inRound l) n P a K' Q r := by
  cases r with
  | ok x w' =>
    cases x with
    | value v => exact hK _ _ h
    | skip => exact hK _ _ h
    | defer d => exact hK _ _ h
    | enter f args =>
      refine ⟨fun h => by simp [Fence.wide] at h, ?_⟩
      refine CallsIn.inRound l (CallsIn.mono ((callsIn_wide (n := n - 1)).2 h) ?_)
      rintro e w'' h'
      cases e with
      | returned v => exact hK _ _ h'
      | panicked c => exact h'.elim
      | outgrown => obtain ⟨_, _, h⟩ := h'; exact h.elim
    | row row args =>
      refine ⟨fun h => by simp [Fence.wide] at h, ?_⟩
      exact RowsIn.mono (rowsIn_of_rows h) (fun v w h => hK _ _ h)
    | round _ _ _ _ _ => exact h.elim
    | _ => exact h.elim
  | halt x w' =>
    cases x <;> exact h.elim
theorem wpIn_of_wp2 {o : Oper} (h : lastsB o = true) {a : Act} {w : World} {K K' : Act → World → Prop} {Q : Exit → Act → World → Prop} (hK : ∀ a w, K a w → K' a w) (hw : o.wp P a w K (Only Q)) : o.wpIn (Fence.wide.inRound l) n P a w K' Q := by
  refine ⟨fun _ _ => trivial, ?_⟩
  rw [Oper.semAt_eq _ _ _ (noDefer_lasts h)]
  exact uponIn_of_upon hK hw
theorem opsIn_of_ops2 {ops : Array Oper} {Q : Exit → Act → World → Prop} (hp : ops.all lastsB = true) : ∀ (l' : List Nat) (a : Act) (w : World), wpOps P ops (Only Q) l' a w → wpOpsIn (Fence.wide.inRound l) n P ops Q l' a w
  | [], _, _, h => h
  | i :: rest, a, w, h => by
    unfold wpOps at h
    unfold wpOpsIn
    cases ho : ops[i]? with
    | none => simp only [ho] at h ⊢; exact opsIn_of_ops2 hp rest a w h
    | some o =>
      simp only [ho] at h ⊢
      have hpo : lastsB o = true := (Array.all_eq_true_iff_forall_mem.1 hp) o (Array.mem_of_getElem? ho)
      by_cases hw : Region.wanted o (yielded ops a.tmps) = true
      · rw [if_pos hw] at h ⊢
        rcases h with h | ⟨_, a', w', h⟩
        · exact wpIn_of_wp2 hpo (fun a w h => opsIn_of_ops2 hp rest a w h) h
        · exact h.elim
      · rw [if_neg hw] at h ⊢
        exact ⟨fun _ _ => trivial, opsIn_of_ops2 hp rest _ w h⟩
/-- Whatever order is picked. -/
theorem wpIn_region_any {id : Nat} {a : Act} {w : World} {ops : Array Oper} {Q : Exit → Act → World → Prop} (hf : P.follows .mixedOrders = true) (hp : ops.all lastsB = true)
    (h : wpAny P .any ops (Only Q) ops.size (Array.replicate ops.size false) a { w with drawn := w.drawn + 1 }) : (Code.region id ops true).wpIn (Fence.wide.inRound l) n P Q a w := by
  refine wpIn_region_draw fun t => ?_
  simp only [Region.schedule, hf, Bool.true_or, if_true]
  exact opsIn_of_ops2 hp _ _ _ (wpAny_sound ops.size t _ a _ h)
/-- Operations and callees that only read: one walk. -/
theorem wpIn_region_quiet {id : Nat} {Q : Exit → Act → World → Prop} {a : Act} {w : World} {l' : List Oper} (hm : P.follows .mixedOrders = true) (hp : l'.toArray.all lastsB = true) (hB : Region.lexB .any l'.toArray = true)
    (h : wpQuiet P l'.toArray (fun w' => ∃ n, w' = w.drewN n) (fun a' => ∀ w', (∃ n, w' = w.drewN n) → Q .normal a' w') l' a) : (Code.region id l'.toArray true).wpIn (Fence.wide.inRound l) n P Q a w := by
  simp only [Region.lexB, Bool.and_eq_true] at hB
  refine wpIn_region_any hm hp (wpAny_of_quiet (C := fun w' => ∃ n, w' = w.drewN n) (Q' := Only Q) (Q := fun a' => ∀ w', (∃ n, w' = w.drewN n) → Q .normal a' w') (fun _ w' hw' h => h w' hw') _ _ _ _ ⟨1, rfl⟩ ?_)
  have := wpAnyQ_lex (C := fun w' => ∃ n, w' = w.drewN n) (md := .any) hB.1 l' 0 (Array.replicate l'.toArray.size false) a (by simp) (by simpa using hB.2) h
  simpa using this
/-- Under a condition that every step keeps. -/
theorem wpIn_region_held {S : World → Prop} {id : Nat} {a : Act} {w : World} {ops : Array Oper} {Q : Exit → Act → World → Prop} (hm : P.follows .mixedOrders = true) (hp : ops.all lastsB = true) (hS : S w.drew)
    (h : S w.drew → wpAnyH P .any ops (Only Q) S ops.size (Array.replicate ops.size false) a w.drew) : (Code.region id ops true).wpIn (Fence.wide.inRound l) n P Q a w :=
  wpIn_region_any hm hp (wpAny_of_held _ _ _ _ (h hS))
end
end Go.Proofs.Ytdinbhanekpjoaa.InRound

/-
  The walk of PlanOrder: it answers true, and nothing that was there has turned.
-/
namespace Go.Proofs.Ytdinbhanekpjoaa
open Go.RowKit Go.Shelf

attribute [local go_sem] Oper.semAt_some

/-- The activation between two rounds. -/
def orderFrame (rb bd gb : Nat) (A1 : Option Addr) (m cap1 k : Nat) (p : Int) (Ds : List Nat) (v : Nat → Value) : Act := { tmps := #[v 0, v 1, v 2, v 3, v 4, v 5, v 6, v 7, .pointer (some ⟨rb, 0, none⟩), .pointer (some ⟨bd, 0, none⟩), .pointer (some ⟨gb, 0, none⟩), v 11, .int .i64 p, v 13, v 14, v 15, v 16, v 17, v 18, v 19, v 20, v 21, v 22, v 23, v 24, v 25, v 26, v 27, v 28, v 29, v 30, v 31, v 32, v 33, v 34, v 35, .slice A1 m cap1, .int .i64 (m : Int), .int .i64 (k : Int), v 39, v 40, v 41, v 42, v 43, v 44, v 45, v 46, v 47, v 48, v 49, v 50, v 51, v 52, v 53, v 54, v 55, v 56, v 57, v 58, v 59, v 60, v 61, v 62, v 63, v 64, v 65, v 66, v 67, v 68, v 69, v 70, v 71, v 72, v 73, v 74, v 75, v 76, v 77, v 78, v 79, v 80, v 81, v 82, v 83, v 84, v 85, v 86, v 87, v 88, v 89], defers := Ds.map ItS.mark }
/-- The activation of the first inner loop's body, and of the second's. -/
def comingFrame (rb bd gb g15 g16 g9 : Nat) (v : Nat → Value) : Act := { tmps := #[v 0, v 1, v 2, v 3, v 4, v 5, v 6, v 7, .pointer (some ⟨rb, 0, none⟩), .pointer (some ⟨bd, 0, none⟩), .pointer (some ⟨gb, 0, none⟩), v 11, v 12, v 13, v 14, .pointer (some ⟨g15, 0, none⟩), .pointer (some ⟨g16, 0, none⟩), .pointer (some ⟨g9, 0, none⟩), v 18, v 19, v 20, v 21, v 22, v 23, v 24, v 25, v 26, v 27, v 28, v 29, v 30, v 31, v 32, v 33, v 34, v 35, v 36, v 37, v 38, v 39, v 40, v 41, v 42, v 43, v 44, v 45, v 46, v 47, v 48, v 49, v 50, v 51, v 52, v 53, v 54, v 55, v 56, v 57, v 58, v 59, v 60, v 61, v 62, v 63, v 64, v 65, v 66, v 67, v 68, v 69, v 70, v 71, v 72, v 73, v 74, v 75, v 76, v 77, v 78, v 79, v 80, v 81, v 82, v 83, v 84, v 85, v 86, v 87, v 88, v 89], defers := [] }
def happenedFrame (rb bd gb g16 g9 : Nat) (v : Nat → Value) : Act := { tmps := #[v 0, v 1, v 2, v 3, v 4, v 5, v 6, v 7, .pointer (some ⟨rb, 0, none⟩), .pointer (some ⟨bd, 0, none⟩), .pointer (some ⟨gb, 0, none⟩), v 11, v 12, v 13, v 14, v 15, .pointer (some ⟨g16, 0, none⟩), v 17, .pointer (some ⟨g9, 0, none⟩), v 19, v 20, v 21, v 22, v 23, v 24, v 25, v 26, v 27, v 28, v 29, v 30, v 31, v 32, v 33, v 34, v 35, v 36, v 37, v 38, v 39, v 40, v 41, v 42, v 43, v 44, v 45, v 46, v 47, v 48, v 49, v 50, v 51, v 52, v 53, v 54, v 55, v 56, v 57, v 58, v 59, v 60, v 61, v 62, v 63, v 64, v 65, v 66, v 67, v 68, v 69, v 70, v 71, v 72, v 73, v 74, v 75, v 76, v 77, v 78, v 79, v 80, v 81, v 82, v 83, v 84, v 85, v 86, v 87, v 88, v 89], defers := [] }
theorem keepsFrom_two {B : Nat} (W : World) {p p' : Addr} (hp : p.block < B) (hp' : p'.block < B) (u u' : Value) : KeepsFrom B W ((W.setCell p u).setCell p' u') :=
  ⟨by simp [World.setCell], fun k o hB hk _ => (Below.heap_setCell _ p' u' k (by omega)).trans ((Below.heap_setCell W p u k (by omega)).trans hk)⟩
theorem keepsFrom_then {B : Nat} {W Wq : World} (h : Below W.heap.size W Wq) {p : Addr} (hp : p.block < B) (u : Value) : KeepsFrom B W (Wq.setCell p u) :=
  ⟨by have := h.size; simpa [World.setCell] using this, fun k o hB hk _ => (Below.heap_setCell _ p u k (by omega)).trans ((h.block k (Array.getElem?_eq_some_iff.1 hk).1).trans hk)⟩
/-- What a round keeps. -/
def OrderInv (w : World) (rb bd gb q d : Nat) (X : Dr) (Ds : List Nat) (wr : World) : Prop :=
  Rel8 w (fun b => b = rb ∨ b = bd ∨ b ∈ Ds) gb q d X wr ∧ Blk wr rb 4 #[.bool false] ∧ Blk wr bd 59 #[.pointer (some ⟨q, 0, none⟩)] ∧ (∀ D ∈ Ds, wr.heap[D]? = some (.deferred (some [])) ∧ rb < D) ∧ Ds.Nodup
set_option maxRecDepth 100000 in
set_option maxHeartbeats 4000000 in
theorem order8_walk (n : Nat) (size op : Int) (A1 : Option Addr) (cap1 : Nat) (ps : List OpP) (w : World) (h1 : CameOps8 w A1 ps) (hz1 : 1 ≤ n) (hz2 : n ≤ 40) (hs1 : 1 ≤ size) (hs2 : size ≤ 64) (ho1 : 1 ≤ op) (ho2 : op ≤ 64) (hn1 : ps.length ≤ 60) :
    Calls Try.prog 9 #[.int .i64 (n : Int), .int .i64 size, .int .i64 op, .slice A1 ps.length cap1] w fun e w' => e = .returned (.bool true) ∧ Below w.heap.size w w' := by
  have h1' := hide h1
  have Hst := hide (fun w => started_yes n size op w hz1 hz2 hs1 hs2 ho1 ho2)
  have Hfits := hide (fun p (hp : p ∈ ps) => (h1.1 p hp).2.2)
  have Hsz := hide hs2
  have d3 : decide (60 < ps.length) = false := decide_eq_false (by omega)
  have d4 : decide ((60 : Int) < (ps.length : Int)) = false := decide_eq_false (by omega)
  have Hn1 := hide hn1
  have Hz := hide (And.intro hz1 hz2)
  clear h1 hs1 hs2 ho1 ho2 hn1 hz1 hz2
  refine ItS.calls_of_wp_marks Try.func9 rfl ?_
  simp only [Try.ntmps9, List.size_toArray, List.length_cons, List.length_nil, Nat.reduceAdd, Nat.reduceSub, Array.replicate_succ, Array.replicate_zero, List.push_toArray, List.append_toArray, List.nil_append, List.cons_append]
  go_upto_region 1 with (fail)
  have hb0 : Below w.heap.size w (w.alloc (.cells #[.bool false] 4)) := (Below.refl _ w).alloc (Nat.le_refl _) _
  have kb := Blk.new w 4 #[.bool false]
  generalize w.alloc _ = w0 at hb0 kb ⊢
  have Hb0 := hide hb0
  have Kb := hide kb
  clear hb0 kb
  go_wp2_with fail
  refine (anchor8_any _).mono ?_
  rintro e w1 ⟨rfl, hb1⟩
  have Hb1 := hide (Hb0.out.trans (hb1.mono Hb0.out.size))
  have kb1 : Blk w1 w.heap.size 4 _ := (hb1.block _ Kb.out.lt).trans Kb.out
  have Kb1 := hide kb1
  clear hb1 kb1 Kb Hb0
  go_wp2_with fail
  refine (Hst.out _).mono ?_
  rintro e w2 ⟨q, d, A', c', rfl, hbeg⟩
  have kb2 : Blk w2 w.heap.size 4 _ := (hbeg.choose_spec.choose_spec.choose_spec.2.1.block _ Kb1.out.lt).trans Kb1.out
  have Kb2 := hide kb2
  have Hbeg := hide hbeg
  clear hbeg Hst kb2
  unfold agg8
  go_upto_region 6 with (fail)
  have hrel0 := Rel8.start3 (w := w) Hb1.out Hbeg.out (.cells #[.pointer (some ⟨q, 0, none⟩)] 59)
  have kbI := (Kb2.out.alloc (.cells #[.pointer (some ⟨q, 0, none⟩)] 59)).alloc (.cells #[.slice A' (DV.Dr.made n size op).D.zs.length c', .int .i64 (DV.Dr.made n size op).D.size, .int .i64 (DV.Dr.made n size op).D.op, .int .i64 ((DV.Dr.made n size op).D.n : Int), .bool (DV.Dr.made n size op).D.down, .slice none (DV.Dr.made n size op).coming.length 0, .slice none (DV.Dr.made n size op).happened.length 0] 62)
  have kdI := (Blk.new w2 59 #[.pointer (some ⟨q, 0, none⟩)]).alloc (.cells #[.slice A' (DV.Dr.made n size op).D.zs.length c', .int .i64 (DV.Dr.made n size op).D.size, .int .i64 (DV.Dr.made n size op).D.op, .int .i64 ((DV.Dr.made n size op).D.n : Int), .bool (DV.Dr.made n size op).D.down, .slice none (DV.Dr.made n size op).coming.length 0, .slice none (DV.Dr.made n size op).happened.length 0] 62)
  have hrbw : w.heap.size < w1.heap.size := Kb1.out.lt
  have hrbd : w.heap.size < w2.heap.size := Kb2.out.lt
  have Hgd0 := hide (Dr.Good.made n size op)
  have Hkept0 := hide (Dr.Kept.made n size op)
  have Hlen0 : Hid ((DV.Dr.made n size op).D.zs.length = n) := hide (by simp [DV.Dr.made, Dv.made])
  have Hsz0 : Hid ((DV.Dr.made n size op).D.size ≤ 64) := hide Hsz.out
  generalize DV.Dr.made n size op = X0 at hrel0 kbI kdI Hgd0 Hkept0 Hlen0 Hsz0 ⊢
  have hrel1 := hrel0.sub3 (E' := fun b => b = w.heap.size ∨ b = w2.heap.size ∨ b ∈ ([] : List Nat)) (fun k hk => by
    rcases hk with rfl | rfl | hk
    · exact .inl ⟨Nat.le_refl _, hrbw⟩
    · exact .inr rfl
    · simp at hk)
  clear Hbeg Hb1 Hsz Kb1 Kb2 hrel0 hrbw
  generalize (w2.alloc _).alloc _ = wI at hrel1 kbI kdI ⊢
  obtain ⟨gb, hgb⟩ : ∃ b, b = w2.heap.size + 1 := ⟨_, rfl⟩
  rw [← hgb] at hrel1 ⊢
  obtain ⟨bd, hbd⟩ : ∃ b, b = w2.heap.size := ⟨_, rfl⟩
  rw [← hbd] at hrel1 kdI hrbd ⊢
  clear hgb hbd
  obtain ⟨rb, hrb⟩ : ∃ b, b = w.heap.size := ⟨_, rfl⟩
  rw [← hrb] at hrel1 kbI hrbd ⊢
  have Hrb := hide hrb
  have Hrbd := hide hrbd
  have Hinv0 := hide (show OrderInv w rb bd gb q d (X0.playTo ps 0) [] wI from ⟨hrel1, kbI, kdI, fun D hD => absurd hD (by simp), List.nodup_nil⟩)
  clear hrb hrel1 kbI kdI hrbd
  go_wp2_with fail
  rename_i hK
  refine wp_loop (fun a wr => ∃ (k : Nat) (p : Int) (Ds : List Nat), a = orderFrame rb bd gb A1 ps.length cap1 k p Ds (fun i => a.tmps.getD i undef) ∧ k ≤ ps.length ∧ p = (Dr.plannedTo ps k : Nat) ∧ OrderInv w rb bd gb q d (X0.playTo ps k) Ds wr ∧ (X0.playTo ps k).Kept (Dr.plannedTo ps k))
    (fun a _ => ps.length - (intOf (a.tmps.getD 38 undef)).toNat) ⟨0, 0, [], rfl, Nat.zero_le _, rfl, Hinv0.out, Hkept0.out⟩ ?_
  rintro a wr ⟨k, p, Ds, ha, hk, hp, hI, hkept⟩
  generalize (fun i => a.tmps.getD i undef) = v at ha
  subst ha
  unfold orderFrame
  clear Hinv0
  obtain ⟨hR, hkb, hkd, hDs, hnd⟩ := hI
  have Hkb := hide hkb
  have Hkd := hide hkd
  have HDs := hide (And.intro hDs hnd)
  have Hp := hide hp
  clear hkb hkd hDs hnd hp
  have HR := hide hR
  obtain ⟨hgk, hlk⟩ := Dr.Good.playTo Hgd0.out Hfits.out k hk (by have := Hn1.out; omega)
  rw [Nat.zero_add] at hgk
  have Hsucc := hide (fun h : k < ps.length => Dr.playTo_succ X0 ps k h)
  generalize hXk : X0.playTo ps k = X at HR Hsucc hgk hlk hkept hR
  have HGd := hide hgk
  have HKept := hide hkept
  have Hlen : Hid (X.D.zs.length = n) := hide (hlk.len.trans Hlen0.out)
  have HszX : Hid (X.D.size ≤ 64) := hide (by rw [hlk.size]; exact Hsz0.out)
  clear hgk hlk hR hXk hkept
  by_cases hlt : k < ps.length
  · clear hK
    obtain ⟨ab, off, rfl, hab, hck⟩ := (h1'.out.below HR.out.world).2 (by omega)
    have Hck := hide (hck k hlt)
    have HZ := hide (Blk.new wr 68 OpP.zero.cells.toArray)
    have hba : Below wr.heap.size wr ((wr.alloc (.cells OpP.zero.cells.toArray 68)).setRow wr.heap.size ps[k].cells.toArray) := below_setRow ((Below.refl _ wr).alloc (Nat.le_refl _) _) (Nat.le_refl _) _
    have hko := HZ.out.setRow ps[k].cells.toArray
    have hmem : ps[k] ∈ ps := List.getElem_mem hlt
    have Hci := hide (h1'.out.1 _ hmem)
    have Hs1 := hide (Hsucc.out hlt)
    clear hck hmem Hsucc
    go_upto_region 10 with (first | ((with_reducible refine wpList_load_mid ?g1 68 (.tmp 40) ?o1 ab (off + k * 136) ?x1 ps[k].cells ?d1 ?r1 ?u1 ?f1 ?i1 ?_); (case g1 => exact rfl); (case o1 => exact rfl); (case x1 => exact rfl); (case r1 => exact Hck.out); (case u1 => exact Try.underlying68); (case f1 => exact rfl); (case i1 => exact sizeOp8 _)) | ((with_reducible refine wpList_store_row ?g2 68 (.tmp 14) (.tmp 41) ?o2 wr.heap.size ps[k].cells.toArray ?x2 ?y2 68 OpP.zero.cells.toArray ?k2 ?s2 ?l2 ?a2 ?_); (case g2 => exact rfl); (case o2 => exact rfl); (case x2 => exact rfl); (case y2 => exact rfl); (case k2 => exact HZ.out); (case s2 => exact sizeOp8R _); (case l2 => simp [OpP.length]); (case a2 => exact OpP.all _)))
    generalize hWA : World.setRow (World.alloc wr _) _ _ = wa
    have hWA' : (wr.alloc (.cells OpP.zero.cells.toArray 68)).setRow wr.heap.size ps[k].cells.toArray = wa := hWA
    rw [hWA'] at hba hko
    clear hWA hWA' HZ Hck
    have Hba := hide hba
    have KO := hide hko
    obtain ⟨ob, hob⟩ : ∃ b, b = wr.heap.size := ⟨_, rfl⟩
    rw [← hob] at KO ⊢
    clear hba hko hob
    have Hpl := hide (Dr.plannedTo_succ ps k hlt)
    have Hright := hide (fun w => DV.right_any ps[k].e w)
    unfold EvV.agg at Hright
    obtain ⟨o0, o1, o2, o3, o4, o5⟩ := OpP.at_ KO.out
    have O5 := hide o5
    clear o1 o2 o3 o4 o5
    by_cases h7 : ps[k].o.kind = 7
    · have d7 : (ps[k].o.kind == 7) = true := beq_iff_eq.2 h7
      have d8 : (ps[k].o.kind == 8) = false := beq_eq_false_iff_ne.2 (by omega)
      have H7 := hide h7
      have H8 : Hid (ps[k].o.kind ≠ 8) := hide (by omega)
      clear h7
      by_cases hr : ps[k].e.right = true
      · rw [hr] at Hright
        have Hp2 : Hid (p + 1 = ((Dr.plannedTo ps (k + 1) : Nat) : Int)) := hide (by rw [Hpl.out, Dr.planned1_yes H7.out hr, Hp.out]; simp)
        have ew : IntKind.i64.wrap (p + 1) = p + 1 := IntWalk.i64_in _ (by have := Dr.plannedTo_le ps k; have := Hp.out; have := Hn1.out; omega)
        clear hr
        go_upto_region 10 with (fail)
        refine wp_region_lit ?_
        iterate 6
          first
          | (refine wpList_stepG (by first | rfl | decide) (exec_load_row 66 (.tmp 46) rfl ob 68 rfl ps[k].e.cells _ O5.out Try.underlying66 rfl (Ev.size _)) (fun K hK => ?_)
             go_simp
             refine hK _ ?_
             clear hK K)
          | (apply wpList_stepG (by first | rfl | decide)
             · go_simp
               first | done | rfl
             intro K hK
             go_simp
             refine hK _ ?_
             clear hK K)
        go_wp2_with fail
        refine (Hright.out _).mono ?_
        rintro e wb ⟨rfl, hbb⟩
        have kob := (hbb.block _ KO.out.lt).trans KO.out
        obtain ⟨o0, -⟩ := OpP.at_ (show Blk wb ob 68 ps[k].cells.toArray from kob)
        have Hbb := hide hbb
        clear hbb kob
        go_upto_region 14 with (fail)
        generalize p + 1 = p2 at Hp2 ⊢
        have HRb := hide (HR.out.below (Hba.out.trans (Hbb.out.mono Hba.out.size)))
        have KOb : Hid (Blk wb ob 68 ps[k].cells.toArray) := hide ((Hbb.out.block _ KO.out.lt).trans KO.out)
        have Hbw := hide (Hba.out.trans (Hbb.out.mono Hba.out.size))
        have Kbb : Hid (Blk wb rb 4 #[.bool false]) := hide ((Hbw.out.block _ Hkb.out.lt).trans Hkb.out)
        have Kdb : Hid (Blk wb bd 59 #[.pointer (some ⟨q, 0, none⟩)]) := hide ((Hbw.out.block _ Hkd.out.lt).trans Hkd.out)
        have HDsb : Hid (∀ D ∈ Ds, wb.heap[D]? = some (.deferred (some [])) ∧ rb < D) := hide (fun D hD => by
          have h9 := HDs.out.1 D hD
          exact ⟨(Hbw.out.block D (Array.getElem?_eq_some_iff.1 h9.1).1).trans h9.1, h9.2⟩)
        obtain ⟨A', c', Ac', cc', Ah', ch', hgb, hstep⟩ := HRb.out.step HGd.out (by have := Hn1.out; omega) (by have := Hlen.out; have := Hz.out.2; omega) HszX.out ps[k] Hci.out.2.2 Hci.out.1 Hci.out.2.1
        have HS := hide (hstep wb (Below.refl _ wb))
        have Hgb := hide hgb
        clear hstep hgb o0 d7 d8
        obtain ⟨a0, a1, a2, a3, a4, a5, a6, -⟩ := Hgb.out.seven
        have cd := Kdb.out.cell 0
        unfold agg8 at HS
        go_wp2_with ((with_reducible refine wpList_load_mid ?g2 68 (.tmp 14) ?o2 ob (0) ?x2 ps[k].cells ?d2 ?r2 ?u2 ?f2 ?i2 ?_); (case g2 => exact rfl); (case o2 => exact rfl); (case x2 => exact rfl); (case r2 => exact range_op8 _ KOb.out); (case u2 => exact Try.underlying68); (case f2 => exact rfl); (case i2 => exact sizeOp8 _))
        refine HS.out.mono ?_
        rintro e w3 ⟨A2, c2, Ac2, cc2, Ah2, ch2, rfl, hg3, hrel3, hm3⟩
        clear a0 a1 a2 a3 a4 a5 a6 HS cd
        have HG' := hide (HGd.out.play (by have := Hn1.out; omega) Hci.out.2.2).1
        have HK' : Hid ((X.play ps[k]).Kept (Dr.plannedTo ps (k + 1))) := hide (by rw [Hpl.out]; exact HKept.out.play (by have := Dr.plannedTo_le ps k; have := Hn1.out; omega) ps[k] H8.out)
        generalize hX' : X.play ps[k] = X' at hrel3 hm3 HG' HK' Hs1 ⊢
        have Hr3 := hide (fun W hW => hrel3.cast (w1 := W) hW)
        have Hm3 := hide (fun W hW => Mods.castW hm3 (w1 := W) hW)
        obtain ⟨a0, a1, a2, a3, a4, a5, a6, f0, f1, f2, f3, f4, f5, f6⟩ := hg3.seven
        clear hg3 hrel3 hm3 hX'
        go_upto_region 15 with (fail)
        clear a0 a1 a2 a3 a4 a5 a6 f0 f1 f2 f3 f4 f5 f6
        generalize hW : World.setCell (World.setCell (World.setCell (World.setCell (World.setCell (World.setCell (World.setCell _ _ _) _ _) _ _) _ _) _ _) _ _) _ _ = w6
        have HR6 := hide (Hr3.out w6 hW)
        have HM6 := hide (Hm3.out w6 hW)
        clear hW Hr3 Hm3 Hgb
        have Kb6 : Hid (Blk w6 rb 4 #[.bool false]) := hide (Kbb.out.mods HM6.out (fun h => h.1 (.inl rfl)))
        have Kd6 : Hid (Blk w6 bd 59 #[.pointer (some ⟨q, 0, none⟩)]) := hide (Kdb.out.mods HM6.out (fun h => h.1 (.inr (.inl rfl))))
        have HDs6 : Hid (∀ D ∈ Ds, w6.heap[D]? = some (.deferred (some [])) ∧ rb < D) := hide (fun D hD => by
          have h9 := HDsb.out D hD
          exact ⟨(HM6.out.block D (Array.getElem?_eq_some_iff.1 h9.1).1 (fun h => h.1 (.inr (.inr hD)))).trans h9.1, h9.2⟩)
        clear HM6 KO KOb Kbb Kdb HDsb HRb Hbw Hba Hbb Hright O5
        go_upto_region 19 with (fail)
        have hb7 : Below w6.heap.size w6 ((w6.alloc (.cells #[.int .i64 (-1)] 3)).alloc (.cells #[.int .i64 0] 3)) := ((Below.refl _ w6).alloc (Nat.le_refl _) _).alloc (by simp) _
        have k15 := (Blk.new w6 3 #[.int .i64 (-1)]).alloc (.cells #[.int .i64 0] 3)
        have k16 := Blk.new (w6.alloc (.cells #[.int .i64 (-1)] 3)) 3 #[.int .i64 0]
        rw [World.size_alloc] at k16
        generalize (w6.alloc (.cells #[.int .i64 (-1)] 3)).alloc (.cells #[.int .i64 0] 3) = w7 at hb7 k15 k16 ⊢
        obtain ⟨F6, FD6, A6, c6, bs6, Fs6, mb6, n6, Ac6, cc6, Ah6, ch6, hd6⟩ := HR6.out.drv
        have Hd6 := hide hd6
        have hd7 := hd6.below hb7
        have Hcom := hide (ItV.coming_any hd7)
        have hev := ItV.EvsIn.of_own hd7.com (fun g hg => hd6.lt g (hd6.inF.2.2.2.1 g hg))
        have hlc : X'.coming.length ≤ 65536 := by have := HG'.out.cnt; have := Hn1.out; omega
        have Hlc := hide hlc
        have kd7 : Blk w7 bd 59 _ := (hb7.block _ Kd6.out.lt).trans Kd6.out
        have cd := kd7.cell 0
        clear hd6 hd7 hlc kd7
        go_wp2_with fail
        refine Hcom.out.mono ?_
        rintro e w8 ⟨rfl, hw8⟩
        have k8 := Blk.new w7 118 #[.slice Ac6 X'.coming.length cc6]
        have hb8 : Below w7.heap.size w7 (w7.alloc (.cells #[.slice Ac6 X'.coming.length cc6] 118)) := (Below.refl _ w7).alloc (Nat.le_refl _) _
        rw [hw8] at k8 hb8
        have K15 : Hid (Blk w8 w6.heap.size 3 #[.int .i64 (-1)]) := hide ((hb8.block _ k15.lt).trans k15)
        have K16 : Hid (Blk w8 (w6.heap.size + 1) 3 #[.int .i64 0]) := hide ((hb8.block _ k16.lt).trans k16)
        have Hb8 := hide (hb7.trans (hb8.mono hb7.size))
        have Hev := hide (hev.below (hb8.mono hb7.size))
        have K8 := hide k8
        clear hw8 k8 hb8 k15 k16 hb7 hev cd Hcom
        go_wp2_with fail
        rename_i hK2
        refine (wpIn_wide (n := 9)).1 (wpIn_rangeFunc_ownH rfl (by omega) rfl trivial (fun _ _ => rfl) (encs := ItV.encs X'.coming) (Kp := Below w6.heap.size) (ItV.values_stops Fence.wide 8 trivial rfl (by omega) _ w6.heap.size Ac6 cc6 X'.coming Hlc.out w8 K8.out.lt Hb8.out.size (K8.out.cell 0) Hev.out) belowK_t (belowK_b Hb8.out.size) (Below.refl _ _) (fun _ => rfl)
          (fun pre W => Blk W w6.heap.size 3 #[.int .i64 (Dr.lastOf X'.coming pre)] ∧ Blk W (w6.heap.size + 1) 3 #[.int .i64 (pre.length : Int)] ∧ Below w6.heap.size w6 W ∧ w8.heap.size ≤ W.heap.size)
          (fun _ pre _ => ∃ (p : List (Fin X'.coming.length)) (x : Fin X'.coming.length), pre = p ++ [x] ∧ X'.coming[x.1].at_ < Dr.lastOf X'.coming p) ?_ (fun _ => ItS.ownFrom_pure _ _) ⟨K15.out, K16.out, Hb8.out, Nat.le_refl _⟩
          (fun x a' W => ∃ g9, a' = comingFrame rb bd gb w6.heap.size (w6.heap.size + 1) g9 (fun i => a'.tmps.getD i undef) ∧ Blk W g9 66 X'.coming[x.1].cells.toArray) ?_ ?_ ?_ ?_ ?_)
        · exact (ItS.ownFrom_blk' _ _ _ (fun (pre : List (Fin X'.coming.length)) => #[.int .i64 (Dr.lastOf X'.coming pre)])).and ((ItS.ownFrom_blk' _ _ _ (fun (pre : List (Fin X'.coming.length)) => #[.int .i64 (pre.length : Int)])).and ((ownFrom_below (Nat.le_refl _) Hb8.out.size).and (fun _ W W' row h hg _ => Nat.le_trans h hg.size)))
        · rintro x a' _ W W' row ⟨g9, e, hb⟩ hg hr
          exact ⟨g9, e, ItS.ownFrom_blk (β := Unit) _ _ _ _ () W W' row hb hg hr⟩
        · rintro l pre x W K ⟨i1, i2, iB, iS⟩ hKa
          have HI := hide (And.intro i1 (And.intro i2 iB))
          have HiS := hide iS
          have HKa := hide hKa
          have HZ := hide (Blk.new W 66 EvV.zero.cells.toArray)
          clear i1 i2 iB iS hKa hK2
          dsimp only [ItV.encs]
          gi_wp2_with ((with_reducible refine ItS.wpListIn_store_row ?g2 66 (.tmp 17) (.tmp 66) ?o2 W.heap.size X'.coming[x.1].cells.toArray ?x2 ?y2 66 EvV.zero.cells.toArray ?k2 ?s2 ?l2 ?a2 ?_); (case g2 => exact rfl); (case o2 => exact rfl); (case x2 => exact rfl); (case y2 => exact rfl); (case k2 => exact HZ.out); (case s2 => exact Ev.sizeR _); (case l2 => simp [EvV.length]); (case a2 => exact EvV.all _))
          have hbY : Below W.heap.size W ((W.alloc (.cells EvV.zero.cells.toArray 66)).setRow W.heap.size X'.coming[x.1].cells.toArray) := below_setRow ((Below.refl _ W).alloc (Nat.le_refl _) _) (Nat.le_refl _) _
          have hWs : w6.heap.size ≤ W.heap.size := HI.out.2.2.size
          refine HKa.out _ _ ⟨hbY.size, fun j o _ hj _ => (hbY.block j (Array.getElem?_eq_some_iff.1 hj).1).trans hj⟩ (hbY.mono hWs) ⟨(hbY.block _ HI.out.1.lt).trans HI.out.1, (hbY.block _ HI.out.2.1.lt).trans HI.out.2.1, HI.out.2.2.trans (hbY.mono hWs), Nat.le_trans HiS.out hbY.size⟩ ⟨W.heap.size, rfl, HZ.out.setRow _⟩
        · rintro l pre ⟨i, hi⟩ a' W hl hrec ⟨i1, i2, iB, iS⟩ ⟨g9, ha, hk9⟩ hpre
          dsimp only at hi hk9 ha ⊢
          generalize (fun j => a'.tmps.getD j undef) = v at ha
          subst ha
          unfold comingFrame
          obtain ⟨e0, -⟩ := EvV.blk4 hk9
          have c1 : W.cell? ⟨w6.heap.size, 0, none⟩ = some (.int .i64 (Dr.lastOf X'.coming pre)) := i1.cell 0
          have c2 : W.cell? ⟨w6.heap.size + 1, 0, none⟩ = some (.int .i64 (pre.length : Int)) := i2.cell 0
          have f1 := i1.frozen 0
          have f2 := i2.frozen 0
          have h68 : w6.heap.size + 1 < w8.heap.size := K16.out.lt
          by_cases hx : X'.coming[i].at_ < Dr.lastOf X'.coming pre
          · have dx : decide (X'.coming[i].at_ < Dr.lastOf X'.coming pre) = true := decide_eq_true hx
            have Hx := hide hx
            have k1 : Blk W rb 4 #[.bool false] := (iB.block _ Kb6.out.lt).trans Kb6.out
            have cb := k1.cell 0
            have fb := k1.frozen 0
            have hrb6 := Kb6.out.lt
            clear hx hK2
            gi_wp2
            have hkf := ItS.keepsFrom_setCell (B := w8.heap.size) W (p := ⟨rb, 0, none⟩) (by dsimp only; omega) (.bool false)
            exact ⟨⟨hkf.size, hkf.same⟩, pre, ⟨i, hi⟩, rfl, Hx.out⟩
          · have dx : decide (X'.coming[i].at_ < Dr.lastOf X'.coming pre) = false := decide_eq_false hx
            have hpl : (pre.length : Int) < 65536 := by have := Hlc.out; omega
            have ewl : IntKind.i64.wrap ((pre.length : Int) + 1) = (pre.length : Int) + 1 := IntWalk.i64_in _ (by omega)
            clear hx hK2
            gi_wp2
            refine ⟨keepsFrom_two W (p := ⟨w6.heap.size, 0, none⟩) (p' := ⟨w6.heap.size + 1, 0, none⟩) (by dsimp only; omega) (by dsimp only; omega) _ _, ?_, ?_, ?_, ?_, ?_⟩
            · exact ((Below.refl w6.heap.size W).setCell (p := ⟨w6.heap.size, 0, none⟩) (Nat.le_refl _) _).setCell (p := ⟨w6.heap.size + 1, 0, none⟩) (by dsimp only; omega) _
            · rw [Dr.lastOf_snoc]
              have := (i1.set_ 0 (.int .i64 X'.coming[i].at_)).far (p := ⟨w6.heap.size + 1, 0, none⟩) (by simp) (.int .i64 ((pre.length : Int) + 1))
              exact this
            · have := (i2.far (p := ⟨w6.heap.size, 0, none⟩) (by simp) (.int .i64 X'.coming[i].at_)).set_ 0 (.int .i64 ((pre.length : Int) + 1))
              have e : ∀ y : Fin X'.coming.length, (((pre ++ [y]).length : Nat) : Int) = (pre.length : Int) + 1 := fun y => by simp
              rw [e]
              exact this
            · exact (iB.setCell (p := ⟨w6.heap.size, 0, none⟩) (Nat.le_refl _) _).setCell (p := ⟨w6.heap.size + 1, 0, none⟩) (by dsimp only; omega) _
            · simpa [World.setCell] using iS
        · rintro D' xs W hD rfl ⟨i1, i2, iB, iS⟩ hdef
          refine hK2 _ _ ?_
          clear hK2
          rw [ItS.upto_length (Nat.le_refl _)] at i2
          have hlD : D' < W.heap.size := (Array.getElem?_eq_some_iff.1 hdef).1
          have hb6D : w6.heap.size ≤ D' := Nat.le_trans Hb8.out.size hD
          have HdefW := hide (And.intro hdef (And.intro hlD hb6D))
          have HbW := hide iB
          have K16W := hide i2
          have hdW := Hd6.out.below iB
          have Hhap := hide (ItV.happened_any hdW)
          have hevh := ItV.EvsIn.of_own hdW.hap (fun g hg => Hd6.out.lt g (Hd6.out.inF.2.2.2.2 g hg))
          have hlh : X'.happened.length ≤ 65536 := by have := HG'.out.cnt; have := Hn1.out; omega
          have Hlh := hide hlh
          have kdW : Blk W bd 59 _ := (iB.block _ Kd6.out.lt).trans Kd6.out
          have cd := kdW.cell 0
          clear i1 i2 iB iS hdef hlD hdW hlh kdW
          go_wp2_with fail
          refine Hhap.out.mono ?_
          rintro e w9 ⟨rfl, hw9⟩
          have k9 := Blk.new W 118 #[.slice Ah6 X'.happened.length ch6]
          have hb9 : Below W.heap.size W (W.alloc (.cells #[.slice Ah6 X'.happened.length ch6] 118)) := (Below.refl _ W).alloc (Nat.le_refl _) _
          rw [hw9] at k9 hb9
          have K169 : Hid (Blk w9 (w6.heap.size + 1) 3 #[.int .i64 (X'.coming.length : Int)]) := hide ((hb9.block _ K16W.out.lt).trans K16W.out)
          have Hb9 := hide (HbW.out.trans (hb9.mono HbW.out.size))
          have HbW9 := hide hb9
          have Hevh := hide (hevh.below (hb9.mono HbW.out.size))
          have K9 := hide k9
          clear hw9 k9 hb9 hevh cd Hhap K16W
          go_wp2_with fail
          rename_i hK3
          refine (wpIn_wide (n := 9)).1 (wpIn_rangeFunc_ownH rfl (by omega) rfl trivial (fun _ _ => rfl) (encs := ItV.encs X'.happened) (Kp := Below w6.heap.size) (ItV.values_stops Fence.wide 8 trivial rfl (by omega) _ w6.heap.size Ah6 ch6 X'.happened Hlh.out w9 K9.out.lt Hb9.out.size (K9.out.cell 0) Hevh.out) belowK_t (belowK_b Hb9.out.size) (Below.refl _ _) (fun _ => rfl)
            (fun pre W => Blk W (w6.heap.size + 1) 3 #[.int .i64 ((X'.coming.length : Int) + (pre.length : Int))] ∧ Below w6.heap.size w6 W ∧ w9.heap.size ≤ W.heap.size ∧ W.heap[D']? = some (.deferred (some [])))
            (fun _ _ _ => False) ?_ (fun _ => ItS.ownFrom_pure _ _) ⟨by simpa using K169.out, Hb9.out, Nat.le_refl _, (HbW9.out.block _ HdefW.out.2.1).trans HdefW.out.1⟩
            (fun x a' W => ∃ g9, a' = happenedFrame rb bd gb (w6.heap.size + 1) g9 (fun i => a'.tmps.getD i undef) ∧ Blk W g9 66 X'.happened[x.1].cells.toArray) ?_ ?_ ?_ ?_ ?_)
          · refine (ItS.ownFrom_blk' _ _ _ (fun (pre : List (Fin X'.happened.length)) => #[.int .i64 ((X'.coming.length : Int) + (pre.length : Int))])).and ((ownFrom_below (Nat.le_refl _) Hb9.out.size).and (OwnFrom.and (fun _ W W' row h hg _ => Nat.le_trans h hg.size) ?_))
            exact fun _ W W' row h hg hr => (hg.block _ (Array.getElem?_eq_some_iff.1 h).1 (fun e => by
              have := (hr _ e.symm).1
              have h1 := HdefW.out.2.1
              have h2 := HbW9.out.size
              omega)).trans h
          · rintro x a' _ W W' row ⟨g9, e, hb⟩ hg hr
            exact ⟨g9, e, ItS.ownFrom_blk (β := Unit) _ _ _ _ () W W' row hb hg hr⟩
          · rintro l pre x W1 K ⟨i1, iB, iS, iD⟩ hKa
            have HI := hide (And.intro i1 (And.intro iB iD))
            have HiS := hide iS
            have HKa := hide hKa
            have HZ := hide (Blk.new W1 66 EvV.zero.cells.toArray)
            clear i1 iB iS iD hKa hK3
            dsimp only [ItV.encs]
            gi_wp2_with ((with_reducible refine ItS.wpListIn_store_row ?g3 66 (.tmp 18) (.tmp 77) ?o3 W1.heap.size X'.happened[x.1].cells.toArray ?x3 ?y3 66 EvV.zero.cells.toArray ?k3 ?s3 ?l3 ?a3 ?_); (case g3 => exact rfl); (case o3 => exact rfl); (case x3 => exact rfl); (case y3 => exact rfl); (case k3 => exact HZ.out); (case s3 => exact Ev.sizeR _); (case l3 => simp [EvV.length]); (case a3 => exact EvV.all _))
            have hbY : Below W1.heap.size W1 ((W1.alloc (.cells EvV.zero.cells.toArray 66)).setRow W1.heap.size X'.happened[x.1].cells.toArray) := below_setRow ((Below.refl _ W1).alloc (Nat.le_refl _) _) (Nat.le_refl _) _
            have hWs : w6.heap.size ≤ W1.heap.size := HI.out.2.1.size
            refine HKa.out _ _ ⟨hbY.size, fun j o _ hj _ => (hbY.block j (Array.getElem?_eq_some_iff.1 hj).1).trans hj⟩ (hbY.mono hWs) ⟨(hbY.block _ HI.out.1.lt).trans HI.out.1, HI.out.2.1.trans (hbY.mono hWs), Nat.le_trans HiS.out hbY.size, (hbY.block _ (Array.getElem?_eq_some_iff.1 HI.out.2.2).1).trans HI.out.2.2⟩ ⟨W1.heap.size, rfl, HZ.out.setRow _⟩
          · rintro l pre ⟨i, hi⟩ a' W1 hl hrec ⟨i1, iB, iS, iD⟩ ⟨g9, ha, hk9⟩ hpre
            dsimp only at hi hk9 ha ⊢
            generalize (fun j => a'.tmps.getD j undef) = v at ha
            subst ha
            unfold happenedFrame
            obtain ⟨e0, -⟩ := EvV.blk4 hk9
            have kd1 : Blk W1 bd 59 _ := (iB.block _ Kd6.out.lt).trans Kd6.out
            have cd := kd1.cell 0
            have hd1 := Hd6.out.below iB
            have Hdev := hide (fun q => DV.device_any (hd1.drewN q))
            have Hcnt := hide (fun q => DM.count_any (hd1.dev.drewN q))
            have dx : decide ((X'.D.n : Int) < X'.happened[i].at_) = false := decide_eq_false (by have := HK'.out.past _ (List.getElem_mem hi); omega)
            have h69 : w6.heap.size + 1 < w9.heap.size := K169.out.lt
            have hpl : (pre.length : Int) < 65536 := by have := Hlh.out; omega
            have hpl2 : (X'.coming.length : Int) ≤ 65536 := by have := Hlc.out; omega
            have ewl : IntKind.i64.wrap ((X'.coming.length : Int) + (pre.length : Int) + 1) = (X'.coming.length : Int) + (pre.length : Int) + 1 := IntWalk.i64_in _ (by omega)
            clear hd1 kd1 hK3
            gi_upto_region 27 with (fail)
            refine InRound.wpIn_region_quiet (by kernel_rfl) (by kernel_rfl) (by kernel_rfl) ?_
            repeat (quiet_step (first | (go_at_call 36; exact DM.quiet Hdev.out _) | (go_at_call 26; exact DM.quiet Hcnt.out _)))
            refine wpQuiet_nil ?_
            intro _ hw'
            obtain ⟨nq, hw''⟩ := hw'
            subst hw''
            have hbq : Below W1.heap.size W1 (W1.drewN nq) := (Mods.refl (fun _ => False) W1).drewN nq |>.below (Nat.le_refl _) (fun _ h => h.elim)
            have i1q : Blk (W1.drewN nq) (w6.heap.size + 1) 3 #[.int .i64 ((X'.coming.length : Int) + (pre.length : Int))] := i1
            clear e0 cd Hdev Hcnt
            generalize W1.drewN nq = Wq at hbq i1q ⊢
            have c2 : Wq.cell? ⟨w6.heap.size + 1, 0, none⟩ = some (.int .i64 ((X'.coming.length : Int) + (pre.length : Int))) := i1q.cell 0
            have f2 := i1q.frozen 0
            gi_wp2
            have hWs : w6.heap.size ≤ W1.heap.size := iB.size
            have hbs : Below w6.heap.size W1 (Wq.setCell ⟨w6.heap.size + 1, 0, none⟩ (.int .i64 ((X'.coming.length : Int) + (pre.length : Int) + 1))) := (hbq.mono hWs).setCell (p := ⟨w6.heap.size + 1, 0, none⟩) (by dsimp only; omega) _
            refine ⟨keepsFrom_then hbq (p := ⟨w6.heap.size + 1, 0, none⟩) (by dsimp only; omega) _, hbs, ?_, iB.trans hbs, Nat.le_trans iS hbs.size, ?_⟩
            · have := i1q.set_ 0 (.int .i64 ((X'.coming.length : Int) + (pre.length : Int) + 1))
              have e : ∀ y : Fin X'.happened.length, (X'.coming.length : Int) + (((pre ++ [y]).length : Nat) : Int) = (X'.coming.length : Int) + (pre.length : Int) + 1 := fun y => by simp; omega
              rw [e]
              exact this
            · have hDl := (Array.getElem?_eq_some_iff.1 iD).1
              have hne : D' ≠ w6.heap.size + 1 := fun e => by
                have h1 : W1.heap[w6.heap.size + 1]? = some _ := i1
                rw [e] at iD
                rw [iD] at h1
                cases h1
              exact (Below.heap_setCell _ ⟨w6.heap.size + 1, 0, none⟩ _ D' hne).trans ((hbq.block _ hDl).trans iD)
          · rintro D2 xs W1 hD2 rfl ⟨i1, iB, iS, iD⟩ hdef2
            refine hK3 _ _ ?_
            clear hK3
            rw [ItS.upto_length (Nat.le_refl _)] at i1
            have c16 : W1.cell? ⟨w6.heap.size + 1, 0, none⟩ = some (.int .i64 ((X'.coming.length : Int) + (X'.happened.length : Int))) := i1.cell 0
            have d30 : (((X'.coming.length : Int) + (X'.happened.length : Int)) != p2) = false := by
              rw [Hp2.out, ← HK'.out.sum]
              simp
              omega
            have hlD2 : D2 < W1.heap.size := (Array.getElem?_eq_some_iff.1 hdef2).1
            have Hrel : Hid (OrderInv w rb bd gb q d (X0.playTo ps (k + 1)) (D2 :: D' :: Ds) W1) := hide (by
              rw [Hs1.out]
              refine ⟨HR6.out.more (fun b hb => ?_) iB, (iB.block _ Kb6.out.lt).trans Kb6.out, (iB.block _ Kd6.out.lt).trans Kd6.out, fun D hD => ?_, ?_⟩
              · rcases hb with h | h | h
                · exact .inl (.inl h)
                · exact .inl (.inr (.inl h))
                · rcases List.mem_cons.1 h with rfl | h
                  · exact .inr ⟨by have := Hb9.out.size; omega, hlD2⟩
                  · rcases List.mem_cons.1 h with rfl | h
                    · exact .inr ⟨HdefW.out.2.2, (Array.getElem?_eq_some_iff.1 iD).1⟩
                    · exact .inl (.inr (.inr h))
              · have hrb6 := Kb6.out.lt
                rcases List.mem_cons.1 hD with rfl | h
                · exact ⟨hdef2, by have := Hb9.out.size; omega⟩
                · rcases List.mem_cons.1 h with rfl | h
                  · exact ⟨iD, by have := HdefW.out.2.2; omega⟩
                  · have h9 := HDs6.out D h
                    exact ⟨(iB.block D (Array.getElem?_eq_some_iff.1 h9.1).1).trans h9.1, h9.2⟩
              · have hin : ∀ D ∈ Ds, D < w6.heap.size := fun D h => (Array.getElem?_eq_some_iff.1 (HDs6.out D h).1).1
                refine List.nodup_cons.2 ⟨fun hm => ?_, List.nodup_cons.2 ⟨fun hm => ?_, HDs.out.2⟩⟩
                · have h1 := HdefW.out.2.1
                  have h2 := HbW9.out.size
                  have h3 := Hb9.out.size
                  rcases List.mem_cons.1 hm with rfl | h
                  · omega
                  · have := hin _ h; omega
                · have h1 := HdefW.out.2.2
                  have := hin _ hm
                  omega)
            have hk60 : ps.length ≤ 60 := Hn1.out
            clear i1 iB iS iD hdef2
            go_wp2_with fail
            exact ⟨⟨k + 1, p2, D2 :: D' :: Ds, by first | rfl | (simp only [Int.natCast_add]; rfl), by omega, Hp2.out, Hrel.out, by rw [Hs1.out]; exact HK'.out⟩, by simp [intOf]; omega⟩
          · exact fun _ _ _ _ _ _ h _ => h.elim
        · rintro D' cc pre W hD ⟨q, hq, rfl⟩ ⟨p, x, hp, hx⟩ hdef
          exact absurd (Dr.lastOf_le HG'.out.srt HK'.out.pos hq hp) (by omega)
      · rw [Bool.not_eq_true] at hr
        rw [hr] at Hright
        have Hp2 : Hid (p = ((Dr.plannedTo ps (k + 1) : Nat) : Int)) := hide (by rw [Hpl.out, Dr.planned1_no (by rw [hr]; simp), Hp.out]; simp)
        clear hr
        go_upto_region 10 with (fail)
        refine wp_region_lit ?_
        iterate 6
          first
          | (refine wpList_stepG (by first | rfl | decide) (exec_load_row 66 (.tmp 46) rfl ob 68 rfl ps[k].e.cells _ O5.out Try.underlying66 rfl (Ev.size _)) (fun K hK => ?_)
             go_simp
             refine hK _ ?_
             clear hK K)
          | (apply wpList_stepG (by first | rfl | decide)
             · go_simp
               first | done | rfl
             intro K hK
             go_simp
             refine hK _ ?_
             clear hK K)
        go_wp2_with fail
        refine (Hright.out _).mono ?_
        rintro e wb ⟨rfl, hbb⟩
        have kob := (hbb.block _ KO.out.lt).trans KO.out
        obtain ⟨o0, -⟩ := OpP.at_ (show Blk wb ob 68 ps[k].cells.toArray from kob)
        have Hbb := hide hbb
        clear hbb kob
        go_upto_region 14 with (fail)
        obtain ⟨p2, hp2⟩ : ∃ p2, p2 = p := ⟨_, rfl⟩
        rw [← hp2] at Hp2 ⊢
        clear hp2
        have HRb := hide (HR.out.below (Hba.out.trans (Hbb.out.mono Hba.out.size)))
        have KOb : Hid (Blk wb ob 68 ps[k].cells.toArray) := hide ((Hbb.out.block _ KO.out.lt).trans KO.out)
        have Hbw := hide (Hba.out.trans (Hbb.out.mono Hba.out.size))
        have Kbb : Hid (Blk wb rb 4 #[.bool false]) := hide ((Hbw.out.block _ Hkb.out.lt).trans Hkb.out)
        have Kdb : Hid (Blk wb bd 59 #[.pointer (some ⟨q, 0, none⟩)]) := hide ((Hbw.out.block _ Hkd.out.lt).trans Hkd.out)
        have HDsb : Hid (∀ D ∈ Ds, wb.heap[D]? = some (.deferred (some [])) ∧ rb < D) := hide (fun D hD => by
          have h9 := HDs.out.1 D hD
          exact ⟨(Hbw.out.block D (Array.getElem?_eq_some_iff.1 h9.1).1).trans h9.1, h9.2⟩)
        obtain ⟨A', c', Ac', cc', Ah', ch', hgb, hstep⟩ := HRb.out.step HGd.out (by have := Hn1.out; omega) (by have := Hlen.out; have := Hz.out.2; omega) HszX.out ps[k] Hci.out.2.2 Hci.out.1 Hci.out.2.1
        have HS := hide (hstep wb (Below.refl _ wb))
        have Hgb := hide hgb
        clear hstep hgb o0 d7 d8
        obtain ⟨a0, a1, a2, a3, a4, a5, a6, -⟩ := Hgb.out.seven
        have cd := Kdb.out.cell 0
        unfold agg8 at HS
        go_wp2_with ((with_reducible refine wpList_load_mid ?g2 68 (.tmp 14) ?o2 ob (0) ?x2 ps[k].cells ?d2 ?r2 ?u2 ?f2 ?i2 ?_); (case g2 => exact rfl); (case o2 => exact rfl); (case x2 => exact rfl); (case r2 => exact range_op8 _ KOb.out); (case u2 => exact Try.underlying68); (case f2 => exact rfl); (case i2 => exact sizeOp8 _))
        refine HS.out.mono ?_
        rintro e w3 ⟨A2, c2, Ac2, cc2, Ah2, ch2, rfl, hg3, hrel3, hm3⟩
        clear a0 a1 a2 a3 a4 a5 a6 HS cd
        have HG' := hide (HGd.out.play (by have := Hn1.out; omega) Hci.out.2.2).1
        have HK' : Hid ((X.play ps[k]).Kept (Dr.plannedTo ps (k + 1))) := hide (by rw [Hpl.out]; exact HKept.out.play (by have := Dr.plannedTo_le ps k; have := Hn1.out; omega) ps[k] H8.out)
        generalize hX' : X.play ps[k] = X' at hrel3 hm3 HG' HK' Hs1 ⊢
        have Hr3 := hide (fun W hW => hrel3.cast (w1 := W) hW)
        have Hm3 := hide (fun W hW => Mods.castW hm3 (w1 := W) hW)
        obtain ⟨a0, a1, a2, a3, a4, a5, a6, f0, f1, f2, f3, f4, f5, f6⟩ := hg3.seven
        clear hg3 hrel3 hm3 hX'
        go_upto_region 15 with (fail)
        clear a0 a1 a2 a3 a4 a5 a6 f0 f1 f2 f3 f4 f5 f6
        generalize hW : World.setCell (World.setCell (World.setCell (World.setCell (World.setCell (World.setCell (World.setCell _ _ _) _ _) _ _) _ _) _ _) _ _) _ _ = w6
        have HR6 := hide (Hr3.out w6 hW)
        have HM6 := hide (Hm3.out w6 hW)
        clear hW Hr3 Hm3 Hgb
        have Kb6 : Hid (Blk w6 rb 4 #[.bool false]) := hide (Kbb.out.mods HM6.out (fun h => h.1 (.inl rfl)))
        have Kd6 : Hid (Blk w6 bd 59 #[.pointer (some ⟨q, 0, none⟩)]) := hide (Kdb.out.mods HM6.out (fun h => h.1 (.inr (.inl rfl))))
        have HDs6 : Hid (∀ D ∈ Ds, w6.heap[D]? = some (.deferred (some [])) ∧ rb < D) := hide (fun D hD => by
          have h9 := HDsb.out D hD
          exact ⟨(HM6.out.block D (Array.getElem?_eq_some_iff.1 h9.1).1 (fun h => h.1 (.inr (.inr hD)))).trans h9.1, h9.2⟩)
        clear HM6 KO KOb Kbb Kdb HDsb HRb Hbw Hba Hbb Hright O5
        go_upto_region 19 with (fail)
        have hb7 : Below w6.heap.size w6 ((w6.alloc (.cells #[.int .i64 (-1)] 3)).alloc (.cells #[.int .i64 0] 3)) := ((Below.refl _ w6).alloc (Nat.le_refl _) _).alloc (by simp) _
        have k15 := (Blk.new w6 3 #[.int .i64 (-1)]).alloc (.cells #[.int .i64 0] 3)
        have k16 := Blk.new (w6.alloc (.cells #[.int .i64 (-1)] 3)) 3 #[.int .i64 0]
        rw [World.size_alloc] at k16
        generalize (w6.alloc (.cells #[.int .i64 (-1)] 3)).alloc (.cells #[.int .i64 0] 3) = w7 at hb7 k15 k16 ⊢
        obtain ⟨F6, FD6, A6, c6, bs6, Fs6, mb6, n6, Ac6, cc6, Ah6, ch6, hd6⟩ := HR6.out.drv
        have Hd6 := hide hd6
        have hd7 := hd6.below hb7
        have Hcom := hide (ItV.coming_any hd7)
        have hev := ItV.EvsIn.of_own hd7.com (fun g hg => hd6.lt g (hd6.inF.2.2.2.1 g hg))
        have hlc : X'.coming.length ≤ 65536 := by have := HG'.out.cnt; have := Hn1.out; omega
        have Hlc := hide hlc
        have kd7 : Blk w7 bd 59 _ := (hb7.block _ Kd6.out.lt).trans Kd6.out
        have cd := kd7.cell 0
        clear hd6 hd7 hlc kd7
        go_wp2_with fail
        refine Hcom.out.mono ?_
        rintro e w8 ⟨rfl, hw8⟩
        have k8 := Blk.new w7 118 #[.slice Ac6 X'.coming.length cc6]
        have hb8 : Below w7.heap.size w7 (w7.alloc (.cells #[.slice Ac6 X'.coming.length cc6] 118)) := (Below.refl _ w7).alloc (Nat.le_refl _) _
        rw [hw8] at k8 hb8
        have K15 : Hid (Blk w8 w6.heap.size 3 #[.int .i64 (-1)]) := hide ((hb8.block _ k15.lt).trans k15)
        have K16 : Hid (Blk w8 (w6.heap.size + 1) 3 #[.int .i64 0]) := hide ((hb8.block _ k16.lt).trans k16)
        have Hb8 := hide (hb7.trans (hb8.mono hb7.size))
        have Hev := hide (hev.below (hb8.mono hb7.size))
        have K8 := hide k8
        clear hw8 k8 hb8 k15 k16 hb7 hev cd Hcom
        go_wp2_with fail
        rename_i hK2
        refine (wpIn_wide (n := 9)).1 (wpIn_rangeFunc_ownH rfl (by omega) rfl trivial (fun _ _ => rfl) (encs := ItV.encs X'.coming) (Kp := Below w6.heap.size) (ItV.values_stops Fence.wide 8 trivial rfl (by omega) _ w6.heap.size Ac6 cc6 X'.coming Hlc.out w8 K8.out.lt Hb8.out.size (K8.out.cell 0) Hev.out) belowK_t (belowK_b Hb8.out.size) (Below.refl _ _) (fun _ => rfl)
          (fun pre W => Blk W w6.heap.size 3 #[.int .i64 (Dr.lastOf X'.coming pre)] ∧ Blk W (w6.heap.size + 1) 3 #[.int .i64 (pre.length : Int)] ∧ Below w6.heap.size w6 W ∧ w8.heap.size ≤ W.heap.size)
          (fun _ pre _ => ∃ (p : List (Fin X'.coming.length)) (x : Fin X'.coming.length), pre = p ++ [x] ∧ X'.coming[x.1].at_ < Dr.lastOf X'.coming p) ?_ (fun _ => ItS.ownFrom_pure _ _) ⟨K15.out, K16.out, Hb8.out, Nat.le_refl _⟩
          (fun x a' W => ∃ g9, a' = comingFrame rb bd gb w6.heap.size (w6.heap.size + 1) g9 (fun i => a'.tmps.getD i undef) ∧ Blk W g9 66 X'.coming[x.1].cells.toArray) ?_ ?_ ?_ ?_ ?_)
        · exact (ItS.ownFrom_blk' _ _ _ (fun (pre : List (Fin X'.coming.length)) => #[.int .i64 (Dr.lastOf X'.coming pre)])).and ((ItS.ownFrom_blk' _ _ _ (fun (pre : List (Fin X'.coming.length)) => #[.int .i64 (pre.length : Int)])).and ((ownFrom_below (Nat.le_refl _) Hb8.out.size).and (fun _ W W' row h hg _ => Nat.le_trans h hg.size)))
        · rintro x a' _ W W' row ⟨g9, e, hb⟩ hg hr
          exact ⟨g9, e, ItS.ownFrom_blk (β := Unit) _ _ _ _ () W W' row hb hg hr⟩
        · rintro l pre x W K ⟨i1, i2, iB, iS⟩ hKa
          have HI := hide (And.intro i1 (And.intro i2 iB))
          have HiS := hide iS
          have HKa := hide hKa
          have HZ := hide (Blk.new W 66 EvV.zero.cells.toArray)
          clear i1 i2 iB iS hKa hK2
          dsimp only [ItV.encs]
          gi_wp2_with ((with_reducible refine ItS.wpListIn_store_row ?g2 66 (.tmp 17) (.tmp 66) ?o2 W.heap.size X'.coming[x.1].cells.toArray ?x2 ?y2 66 EvV.zero.cells.toArray ?k2 ?s2 ?l2 ?a2 ?_); (case g2 => exact rfl); (case o2 => exact rfl); (case x2 => exact rfl); (case y2 => exact rfl); (case k2 => exact HZ.out); (case s2 => exact Ev.sizeR _); (case l2 => simp [EvV.length]); (case a2 => exact EvV.all _))
          have hbY : Below W.heap.size W ((W.alloc (.cells EvV.zero.cells.toArray 66)).setRow W.heap.size X'.coming[x.1].cells.toArray) := below_setRow ((Below.refl _ W).alloc (Nat.le_refl _) _) (Nat.le_refl _) _
          have hWs : w6.heap.size ≤ W.heap.size := HI.out.2.2.size
          refine HKa.out _ _ ⟨hbY.size, fun j o _ hj _ => (hbY.block j (Array.getElem?_eq_some_iff.1 hj).1).trans hj⟩ (hbY.mono hWs) ⟨(hbY.block _ HI.out.1.lt).trans HI.out.1, (hbY.block _ HI.out.2.1.lt).trans HI.out.2.1, HI.out.2.2.trans (hbY.mono hWs), Nat.le_trans HiS.out hbY.size⟩ ⟨W.heap.size, rfl, HZ.out.setRow _⟩
        · rintro l pre ⟨i, hi⟩ a' W hl hrec ⟨i1, i2, iB, iS⟩ ⟨g9, ha, hk9⟩ hpre
          dsimp only at hi hk9 ha ⊢
          generalize (fun j => a'.tmps.getD j undef) = v at ha
          subst ha
          unfold comingFrame
          obtain ⟨e0, -⟩ := EvV.blk4 hk9
          have c1 : W.cell? ⟨w6.heap.size, 0, none⟩ = some (.int .i64 (Dr.lastOf X'.coming pre)) := i1.cell 0
          have c2 : W.cell? ⟨w6.heap.size + 1, 0, none⟩ = some (.int .i64 (pre.length : Int)) := i2.cell 0
          have f1 := i1.frozen 0
          have f2 := i2.frozen 0
          have h68 : w6.heap.size + 1 < w8.heap.size := K16.out.lt
          by_cases hx : X'.coming[i].at_ < Dr.lastOf X'.coming pre
          · have dx : decide (X'.coming[i].at_ < Dr.lastOf X'.coming pre) = true := decide_eq_true hx
            have Hx := hide hx
            have k1 : Blk W rb 4 #[.bool false] := (iB.block _ Kb6.out.lt).trans Kb6.out
            have cb := k1.cell 0
            have fb := k1.frozen 0
            have hrb6 := Kb6.out.lt
            clear hx hK2
            gi_wp2
            have hkf := ItS.keepsFrom_setCell (B := w8.heap.size) W (p := ⟨rb, 0, none⟩) (by dsimp only; omega) (.bool false)
            exact ⟨⟨hkf.size, hkf.same⟩, pre, ⟨i, hi⟩, rfl, Hx.out⟩
          · have dx : decide (X'.coming[i].at_ < Dr.lastOf X'.coming pre) = false := decide_eq_false hx
            have hpl : (pre.length : Int) < 65536 := by have := Hlc.out; omega
            have ewl : IntKind.i64.wrap ((pre.length : Int) + 1) = (pre.length : Int) + 1 := IntWalk.i64_in _ (by omega)
            clear hx hK2
            gi_wp2
            refine ⟨keepsFrom_two W (p := ⟨w6.heap.size, 0, none⟩) (p' := ⟨w6.heap.size + 1, 0, none⟩) (by dsimp only; omega) (by dsimp only; omega) _ _, ?_, ?_, ?_, ?_, ?_⟩
            · exact ((Below.refl w6.heap.size W).setCell (p := ⟨w6.heap.size, 0, none⟩) (Nat.le_refl _) _).setCell (p := ⟨w6.heap.size + 1, 0, none⟩) (by dsimp only; omega) _
            · rw [Dr.lastOf_snoc]
              have := (i1.set_ 0 (.int .i64 X'.coming[i].at_)).far (p := ⟨w6.heap.size + 1, 0, none⟩) (by simp) (.int .i64 ((pre.length : Int) + 1))
              exact this
            · have := (i2.far (p := ⟨w6.heap.size, 0, none⟩) (by simp) (.int .i64 X'.coming[i].at_)).set_ 0 (.int .i64 ((pre.length : Int) + 1))
              have e : ∀ y : Fin X'.coming.length, (((pre ++ [y]).length : Nat) : Int) = (pre.length : Int) + 1 := fun y => by simp
              rw [e]
              exact this
            · exact (iB.setCell (p := ⟨w6.heap.size, 0, none⟩) (Nat.le_refl _) _).setCell (p := ⟨w6.heap.size + 1, 0, none⟩) (by dsimp only; omega) _
            · simpa [World.setCell] using iS
        · rintro D' xs W hD rfl ⟨i1, i2, iB, iS⟩ hdef
          refine hK2 _ _ ?_
          clear hK2
          rw [ItS.upto_length (Nat.le_refl _)] at i2
          have hlD : D' < W.heap.size := (Array.getElem?_eq_some_iff.1 hdef).1
          have hb6D : w6.heap.size ≤ D' := Nat.le_trans Hb8.out.size hD
          have HdefW := hide (And.intro hdef (And.intro hlD hb6D))
          have HbW := hide iB
          have K16W := hide i2
          have hdW := Hd6.out.below iB
          have Hhap := hide (ItV.happened_any hdW)
          have hevh := ItV.EvsIn.of_own hdW.hap (fun g hg => Hd6.out.lt g (Hd6.out.inF.2.2.2.2 g hg))
          have hlh : X'.happened.length ≤ 65536 := by have := HG'.out.cnt; have := Hn1.out; omega
          have Hlh := hide hlh
          have kdW : Blk W bd 59 _ := (iB.block _ Kd6.out.lt).trans Kd6.out
          have cd := kdW.cell 0
          clear i1 i2 iB iS hdef hlD hdW hlh kdW
          go_wp2_with fail
          refine Hhap.out.mono ?_
          rintro e w9 ⟨rfl, hw9⟩
          have k9 := Blk.new W 118 #[.slice Ah6 X'.happened.length ch6]
          have hb9 : Below W.heap.size W (W.alloc (.cells #[.slice Ah6 X'.happened.length ch6] 118)) := (Below.refl _ W).alloc (Nat.le_refl _) _
          rw [hw9] at k9 hb9
          have K169 : Hid (Blk w9 (w6.heap.size + 1) 3 #[.int .i64 (X'.coming.length : Int)]) := hide ((hb9.block _ K16W.out.lt).trans K16W.out)
          have Hb9 := hide (HbW.out.trans (hb9.mono HbW.out.size))
          have HbW9 := hide hb9
          have Hevh := hide (hevh.below (hb9.mono HbW.out.size))
          have K9 := hide k9
          clear hw9 k9 hb9 hevh cd Hhap K16W
          go_wp2_with fail
          rename_i hK3
          refine (wpIn_wide (n := 9)).1 (wpIn_rangeFunc_ownH rfl (by omega) rfl trivial (fun _ _ => rfl) (encs := ItV.encs X'.happened) (Kp := Below w6.heap.size) (ItV.values_stops Fence.wide 8 trivial rfl (by omega) _ w6.heap.size Ah6 ch6 X'.happened Hlh.out w9 K9.out.lt Hb9.out.size (K9.out.cell 0) Hevh.out) belowK_t (belowK_b Hb9.out.size) (Below.refl _ _) (fun _ => rfl)
            (fun pre W => Blk W (w6.heap.size + 1) 3 #[.int .i64 ((X'.coming.length : Int) + (pre.length : Int))] ∧ Below w6.heap.size w6 W ∧ w9.heap.size ≤ W.heap.size ∧ W.heap[D']? = some (.deferred (some [])))
            (fun _ _ _ => False) ?_ (fun _ => ItS.ownFrom_pure _ _) ⟨by simpa using K169.out, Hb9.out, Nat.le_refl _, (HbW9.out.block _ HdefW.out.2.1).trans HdefW.out.1⟩
            (fun x a' W => ∃ g9, a' = happenedFrame rb bd gb (w6.heap.size + 1) g9 (fun i => a'.tmps.getD i undef) ∧ Blk W g9 66 X'.happened[x.1].cells.toArray) ?_ ?_ ?_ ?_ ?_)
          · refine (ItS.ownFrom_blk' _ _ _ (fun (pre : List (Fin X'.happened.length)) => #[.int .i64 ((X'.coming.length : Int) + (pre.length : Int))])).and ((ownFrom_below (Nat.le_refl _) Hb9.out.size).and (OwnFrom.and (fun _ W W' row h hg _ => Nat.le_trans h hg.size) ?_))
            exact fun _ W W' row h hg hr => (hg.block _ (Array.getElem?_eq_some_iff.1 h).1 (fun e => by
              have := (hr _ e.symm).1
              have h1 := HdefW.out.2.1
              have h2 := HbW9.out.size
              omega)).trans h
          · rintro x a' _ W W' row ⟨g9, e, hb⟩ hg hr
            exact ⟨g9, e, ItS.ownFrom_blk (β := Unit) _ _ _ _ () W W' row hb hg hr⟩
          · rintro l pre x W1 K ⟨i1, iB, iS, iD⟩ hKa
            have HI := hide (And.intro i1 (And.intro iB iD))
            have HiS := hide iS
            have HKa := hide hKa
            have HZ := hide (Blk.new W1 66 EvV.zero.cells.toArray)
            clear i1 iB iS iD hKa hK3
            dsimp only [ItV.encs]
            gi_wp2_with ((with_reducible refine ItS.wpListIn_store_row ?g3 66 (.tmp 18) (.tmp 77) ?o3 W1.heap.size X'.happened[x.1].cells.toArray ?x3 ?y3 66 EvV.zero.cells.toArray ?k3 ?s3 ?l3 ?a3 ?_); (case g3 => exact rfl); (case o3 => exact rfl); (case x3 => exact rfl); (case y3 => exact rfl); (case k3 => exact HZ.out); (case s3 => exact Ev.sizeR _); (case l3 => simp [EvV.length]); (case a3 => exact EvV.all _))
            have hbY : Below W1.heap.size W1 ((W1.alloc (.cells EvV.zero.cells.toArray 66)).setRow W1.heap.size X'.happened[x.1].cells.toArray) := below_setRow ((Below.refl _ W1).alloc (Nat.le_refl _) _) (Nat.le_refl _) _
            have hWs : w6.heap.size ≤ W1.heap.size := HI.out.2.1.size
            refine HKa.out _ _ ⟨hbY.size, fun j o _ hj _ => (hbY.block j (Array.getElem?_eq_some_iff.1 hj).1).trans hj⟩ (hbY.mono hWs) ⟨(hbY.block _ HI.out.1.lt).trans HI.out.1, HI.out.2.1.trans (hbY.mono hWs), Nat.le_trans HiS.out hbY.size, (hbY.block _ (Array.getElem?_eq_some_iff.1 HI.out.2.2).1).trans HI.out.2.2⟩ ⟨W1.heap.size, rfl, HZ.out.setRow _⟩
          · rintro l pre ⟨i, hi⟩ a' W1 hl hrec ⟨i1, iB, iS, iD⟩ ⟨g9, ha, hk9⟩ hpre
            dsimp only at hi hk9 ha ⊢
            generalize (fun j => a'.tmps.getD j undef) = v at ha
            subst ha
            unfold happenedFrame
            obtain ⟨e0, -⟩ := EvV.blk4 hk9
            have kd1 : Blk W1 bd 59 _ := (iB.block _ Kd6.out.lt).trans Kd6.out
            have cd := kd1.cell 0
            have hd1 := Hd6.out.below iB
            have Hdev := hide (fun q => DV.device_any (hd1.drewN q))
            have Hcnt := hide (fun q => DM.count_any (hd1.dev.drewN q))
            have dx : decide ((X'.D.n : Int) < X'.happened[i].at_) = false := decide_eq_false (by have := HK'.out.past _ (List.getElem_mem hi); omega)
            have h69 : w6.heap.size + 1 < w9.heap.size := K169.out.lt
            have hpl : (pre.length : Int) < 65536 := by have := Hlh.out; omega
            have hpl2 : (X'.coming.length : Int) ≤ 65536 := by have := Hlc.out; omega
            have ewl : IntKind.i64.wrap ((X'.coming.length : Int) + (pre.length : Int) + 1) = (X'.coming.length : Int) + (pre.length : Int) + 1 := IntWalk.i64_in _ (by omega)
            clear hd1 kd1 hK3
            gi_upto_region 27 with (fail)
            refine InRound.wpIn_region_quiet (by kernel_rfl) (by kernel_rfl) (by kernel_rfl) ?_
            repeat (quiet_step (first | (go_at_call 36; exact DM.quiet Hdev.out _) | (go_at_call 26; exact DM.quiet Hcnt.out _)))
            refine wpQuiet_nil ?_
            intro _ hw'
            obtain ⟨nq, hw''⟩ := hw'
            subst hw''
            have hbq : Below W1.heap.size W1 (W1.drewN nq) := (Mods.refl (fun _ => False) W1).drewN nq |>.below (Nat.le_refl _) (fun _ h => h.elim)
            have i1q : Blk (W1.drewN nq) (w6.heap.size + 1) 3 #[.int .i64 ((X'.coming.length : Int) + (pre.length : Int))] := i1
            clear e0 cd Hdev Hcnt
            generalize W1.drewN nq = Wq at hbq i1q ⊢
            have c2 : Wq.cell? ⟨w6.heap.size + 1, 0, none⟩ = some (.int .i64 ((X'.coming.length : Int) + (pre.length : Int))) := i1q.cell 0
            have f2 := i1q.frozen 0
            gi_wp2
            have hWs : w6.heap.size ≤ W1.heap.size := iB.size
            have hbs : Below w6.heap.size W1 (Wq.setCell ⟨w6.heap.size + 1, 0, none⟩ (.int .i64 ((X'.coming.length : Int) + (pre.length : Int) + 1))) := (hbq.mono hWs).setCell (p := ⟨w6.heap.size + 1, 0, none⟩) (by dsimp only; omega) _
            refine ⟨keepsFrom_then hbq (p := ⟨w6.heap.size + 1, 0, none⟩) (by dsimp only; omega) _, hbs, ?_, iB.trans hbs, Nat.le_trans iS hbs.size, ?_⟩
            · have := i1q.set_ 0 (.int .i64 ((X'.coming.length : Int) + (pre.length : Int) + 1))
              have e : ∀ y : Fin X'.happened.length, (X'.coming.length : Int) + (((pre ++ [y]).length : Nat) : Int) = (X'.coming.length : Int) + (pre.length : Int) + 1 := fun y => by simp; omega
              rw [e]
              exact this
            · have hDl := (Array.getElem?_eq_some_iff.1 iD).1
              have hne : D' ≠ w6.heap.size + 1 := fun e => by
                have h1 : W1.heap[w6.heap.size + 1]? = some _ := i1
                rw [e] at iD
                rw [iD] at h1
                cases h1
              exact (Below.heap_setCell _ ⟨w6.heap.size + 1, 0, none⟩ _ D' hne).trans ((hbq.block _ hDl).trans iD)
          · rintro D2 xs W1 hD2 rfl ⟨i1, iB, iS, iD⟩ hdef2
            refine hK3 _ _ ?_
            clear hK3
            rw [ItS.upto_length (Nat.le_refl _)] at i1
            have c16 : W1.cell? ⟨w6.heap.size + 1, 0, none⟩ = some (.int .i64 ((X'.coming.length : Int) + (X'.happened.length : Int))) := i1.cell 0
            have d30 : (((X'.coming.length : Int) + (X'.happened.length : Int)) != p2) = false := by
              rw [Hp2.out, ← HK'.out.sum]
              simp
              omega
            have hlD2 : D2 < W1.heap.size := (Array.getElem?_eq_some_iff.1 hdef2).1
            have Hrel : Hid (OrderInv w rb bd gb q d (X0.playTo ps (k + 1)) (D2 :: D' :: Ds) W1) := hide (by
              rw [Hs1.out]
              refine ⟨HR6.out.more (fun b hb => ?_) iB, (iB.block _ Kb6.out.lt).trans Kb6.out, (iB.block _ Kd6.out.lt).trans Kd6.out, fun D hD => ?_, ?_⟩
              · rcases hb with h | h | h
                · exact .inl (.inl h)
                · exact .inl (.inr (.inl h))
                · rcases List.mem_cons.1 h with rfl | h
                  · exact .inr ⟨by have := Hb9.out.size; omega, hlD2⟩
                  · rcases List.mem_cons.1 h with rfl | h
                    · exact .inr ⟨HdefW.out.2.2, (Array.getElem?_eq_some_iff.1 iD).1⟩
                    · exact .inl (.inr (.inr h))
              · have hrb6 := Kb6.out.lt
                rcases List.mem_cons.1 hD with rfl | h
                · exact ⟨hdef2, by have := Hb9.out.size; omega⟩
                · rcases List.mem_cons.1 h with rfl | h
                  · exact ⟨iD, by have := HdefW.out.2.2; omega⟩
                  · have h9 := HDs6.out D h
                    exact ⟨(iB.block D (Array.getElem?_eq_some_iff.1 h9.1).1).trans h9.1, h9.2⟩
              · have hin : ∀ D ∈ Ds, D < w6.heap.size := fun D h => (Array.getElem?_eq_some_iff.1 (HDs6.out D h).1).1
                refine List.nodup_cons.2 ⟨fun hm => ?_, List.nodup_cons.2 ⟨fun hm => ?_, HDs.out.2⟩⟩
                · have h1 := HdefW.out.2.1
                  have h2 := HbW9.out.size
                  have h3 := Hb9.out.size
                  rcases List.mem_cons.1 hm with rfl | h
                  · omega
                  · have := hin _ h; omega
                · have h1 := HdefW.out.2.2
                  have := hin _ hm
                  omega)
            have hk60 : ps.length ≤ 60 := Hn1.out
            clear i1 iB iS iD hdef2
            go_wp2_with fail
            exact ⟨⟨k + 1, p2, D2 :: D' :: Ds, by first | rfl | (simp only [Int.natCast_add]; rfl), by omega, Hp2.out, Hrel.out, by rw [Hs1.out]; exact HK'.out⟩, by simp [intOf]; omega⟩
          · exact fun _ _ _ _ _ _ h _ => h.elim
        · rintro D' cc pre W hD ⟨q, hq, rfl⟩ ⟨p, x, hp, hx⟩ hdef
          exact absurd (Dr.lastOf_le HG'.out.srt HK'.out.pos hq hp) (by omega)
    · have d7 : (ps[k].o.kind == 7) = false := beq_eq_false_iff_ne.2 h7
      have Hp2 : Hid (p = ((Dr.plannedTo ps (k + 1) : Nat) : Int)) := hide (by rw [Hpl.out, Dr.planned1_no (fun h => h7 h.1), Hp.out]; simp)
      clear h7
      by_cases h8 : ps[k].o.kind = 8
      · have d8 : (ps[k].o.kind == 8) = true := beq_iff_eq.2 h8
        have Kba : Hid (Blk wa rb 4 #[.bool false]) := hide ((Hba.out.block _ Hkb.out.lt).trans Hkb.out)
        have HDsa : Hid ((∀ D ∈ Ds, wa.heap[D]? = some (.deferred (some [])) ∧ rb < D) ∧ Ds.Nodup) := hide ⟨fun D hD => by
          have h9 := HDs.out.1 D hD
          exact ⟨(Hba.out.block D (Array.getElem?_eq_some_iff.1 h9.1).1).trans h9.1, h9.2⟩, HDs.out.2⟩
        have Hw := hide (HR.out.below Hba.out).world
        have c0 := Kba.out.cell 0
        have f0 := Kba.out.frozen 0
        clear h8
        go_wp2_with fail
        refine ItS.leaves_marks Ds _ (fun D hD => ?_) HDsa.out.2 (fun w' hw' => ?_)
        · have h9 := HDsa.out.1 D hD
          exact (Below.heap_setCell wa ⟨rb, 0, none⟩ _ D (by have := h9.2; dsimp only; omega)).trans h9.1
        · have hn : rb ∉ Ds := fun hD => by have := (HDsa.out.1 _ hD).2; omega
          have hc : w'.cell? ⟨rb, 0, none⟩ = some (.bool true) := by
            have hk : w'.heap[rb]? = (wa.setCell ⟨rb, 0, none⟩ (.bool true)).heap[rb]? := hw'.2.2.2.2 _ hn
            have := (Kba.out.set_ 0 (.bool true)).of_heap hk rfl
            simpa using this.cell 0
          refine ⟨.bool true, by simp [results, Try.f9, go_sem, hc], rfl, ?_⟩
          have := Hrb.out
          exact (Hw.out.setCell (p := ⟨rb, 0, none⟩) (by dsimp only; omega) _).trans (ItS.below_marks hw' (fun D hD => by have := (HDsa.out.1 D hD).2; omega))
      · have d8 : (ps[k].o.kind == 8) = false := beq_eq_false_iff_ne.2 h8
        have H8 := hide h8
        clear h8
        go_upto_region 14 with (fail)
        obtain ⟨wb, hwb⟩ : ∃ wb, wb = wa := ⟨_, rfl⟩
        have Hbb : Hid (Below wa.heap.size wa wb) := hide (by rw [hwb]; exact Below.refl _ _)
        rw [← hwb]
        clear hwb
        obtain ⟨p2, hp2⟩ : ∃ p2, p2 = p := ⟨_, rfl⟩
        rw [← hp2] at Hp2 ⊢
        clear hp2
        have HRb := hide (HR.out.below (Hba.out.trans (Hbb.out.mono Hba.out.size)))
        have KOb : Hid (Blk wb ob 68 ps[k].cells.toArray) := hide ((Hbb.out.block _ KO.out.lt).trans KO.out)
        have Hbw := hide (Hba.out.trans (Hbb.out.mono Hba.out.size))
        have Kbb : Hid (Blk wb rb 4 #[.bool false]) := hide ((Hbw.out.block _ Hkb.out.lt).trans Hkb.out)
        have Kdb : Hid (Blk wb bd 59 #[.pointer (some ⟨q, 0, none⟩)]) := hide ((Hbw.out.block _ Hkd.out.lt).trans Hkd.out)
        have HDsb : Hid (∀ D ∈ Ds, wb.heap[D]? = some (.deferred (some [])) ∧ rb < D) := hide (fun D hD => by
          have h9 := HDs.out.1 D hD
          exact ⟨(Hbw.out.block D (Array.getElem?_eq_some_iff.1 h9.1).1).trans h9.1, h9.2⟩)
        obtain ⟨A', c', Ac', cc', Ah', ch', hgb, hstep⟩ := HRb.out.step HGd.out (by have := Hn1.out; omega) (by have := Hlen.out; have := Hz.out.2; omega) HszX.out ps[k] Hci.out.2.2 Hci.out.1 Hci.out.2.1
        have HS := hide (hstep wb (Below.refl _ wb))
        have Hgb := hide hgb
        clear hstep hgb o0 d7 d8
        obtain ⟨a0, a1, a2, a3, a4, a5, a6, -⟩ := Hgb.out.seven
        have cd := Kdb.out.cell 0
        unfold agg8 at HS
        go_wp2_with ((with_reducible refine wpList_load_mid ?g2 68 (.tmp 14) ?o2 ob (0) ?x2 ps[k].cells ?d2 ?r2 ?u2 ?f2 ?i2 ?_); (case g2 => exact rfl); (case o2 => exact rfl); (case x2 => exact rfl); (case r2 => exact range_op8 _ KOb.out); (case u2 => exact Try.underlying68); (case f2 => exact rfl); (case i2 => exact sizeOp8 _))
        refine HS.out.mono ?_
        rintro e w3 ⟨A2, c2, Ac2, cc2, Ah2, ch2, rfl, hg3, hrel3, hm3⟩
        clear a0 a1 a2 a3 a4 a5 a6 HS cd
        have HG' := hide (HGd.out.play (by have := Hn1.out; omega) Hci.out.2.2).1
        have HK' : Hid ((X.play ps[k]).Kept (Dr.plannedTo ps (k + 1))) := hide (by rw [Hpl.out]; exact HKept.out.play (by have := Dr.plannedTo_le ps k; have := Hn1.out; omega) ps[k] H8.out)
        generalize hX' : X.play ps[k] = X' at hrel3 hm3 HG' HK' Hs1 ⊢
        have Hr3 := hide (fun W hW => hrel3.cast (w1 := W) hW)
        have Hm3 := hide (fun W hW => Mods.castW hm3 (w1 := W) hW)
        obtain ⟨a0, a1, a2, a3, a4, a5, a6, f0, f1, f2, f3, f4, f5, f6⟩ := hg3.seven
        clear hg3 hrel3 hm3 hX'
        go_upto_region 15 with (fail)
        clear a0 a1 a2 a3 a4 a5 a6 f0 f1 f2 f3 f4 f5 f6
        generalize hW : World.setCell (World.setCell (World.setCell (World.setCell (World.setCell (World.setCell (World.setCell _ _ _) _ _) _ _) _ _) _ _) _ _) _ _ = w6
        have HR6 := hide (Hr3.out w6 hW)
        have HM6 := hide (Hm3.out w6 hW)
        clear hW Hr3 Hm3 Hgb
        have Kb6 : Hid (Blk w6 rb 4 #[.bool false]) := hide (Kbb.out.mods HM6.out (fun h => h.1 (.inl rfl)))
        have Kd6 : Hid (Blk w6 bd 59 #[.pointer (some ⟨q, 0, none⟩)]) := hide (Kdb.out.mods HM6.out (fun h => h.1 (.inr (.inl rfl))))
        have HDs6 : Hid (∀ D ∈ Ds, w6.heap[D]? = some (.deferred (some [])) ∧ rb < D) := hide (fun D hD => by
          have h9 := HDsb.out D hD
          exact ⟨(HM6.out.block D (Array.getElem?_eq_some_iff.1 h9.1).1 (fun h => h.1 (.inr (.inr hD)))).trans h9.1, h9.2⟩)
        clear HM6 KO KOb Kbb Kdb HDsb HRb Hbw Hba Hbb Hright O5
        go_upto_region 19 with (fail)
        have hb7 : Below w6.heap.size w6 ((w6.alloc (.cells #[.int .i64 (-1)] 3)).alloc (.cells #[.int .i64 0] 3)) := ((Below.refl _ w6).alloc (Nat.le_refl _) _).alloc (by simp) _
        have k15 := (Blk.new w6 3 #[.int .i64 (-1)]).alloc (.cells #[.int .i64 0] 3)
        have k16 := Blk.new (w6.alloc (.cells #[.int .i64 (-1)] 3)) 3 #[.int .i64 0]
        rw [World.size_alloc] at k16
        generalize (w6.alloc (.cells #[.int .i64 (-1)] 3)).alloc (.cells #[.int .i64 0] 3) = w7 at hb7 k15 k16 ⊢
        obtain ⟨F6, FD6, A6, c6, bs6, Fs6, mb6, n6, Ac6, cc6, Ah6, ch6, hd6⟩ := HR6.out.drv
        have Hd6 := hide hd6
        have hd7 := hd6.below hb7
        have Hcom := hide (ItV.coming_any hd7)
        have hev := ItV.EvsIn.of_own hd7.com (fun g hg => hd6.lt g (hd6.inF.2.2.2.1 g hg))
        have hlc : X'.coming.length ≤ 65536 := by have := HG'.out.cnt; have := Hn1.out; omega
        have Hlc := hide hlc
        have kd7 : Blk w7 bd 59 _ := (hb7.block _ Kd6.out.lt).trans Kd6.out
        have cd := kd7.cell 0
        clear hd6 hd7 hlc kd7
        go_wp2_with fail
        refine Hcom.out.mono ?_
        rintro e w8 ⟨rfl, hw8⟩
        have k8 := Blk.new w7 118 #[.slice Ac6 X'.coming.length cc6]
        have hb8 : Below w7.heap.size w7 (w7.alloc (.cells #[.slice Ac6 X'.coming.length cc6] 118)) := (Below.refl _ w7).alloc (Nat.le_refl _) _
        rw [hw8] at k8 hb8
        have K15 : Hid (Blk w8 w6.heap.size 3 #[.int .i64 (-1)]) := hide ((hb8.block _ k15.lt).trans k15)
        have K16 : Hid (Blk w8 (w6.heap.size + 1) 3 #[.int .i64 0]) := hide ((hb8.block _ k16.lt).trans k16)
        have Hb8 := hide (hb7.trans (hb8.mono hb7.size))
        have Hev := hide (hev.below (hb8.mono hb7.size))
        have K8 := hide k8
        clear hw8 k8 hb8 k15 k16 hb7 hev cd Hcom
        go_wp2_with fail
        rename_i hK2
        refine (wpIn_wide (n := 9)).1 (wpIn_rangeFunc_ownH rfl (by omega) rfl trivial (fun _ _ => rfl) (encs := ItV.encs X'.coming) (Kp := Below w6.heap.size) (ItV.values_stops Fence.wide 8 trivial rfl (by omega) _ w6.heap.size Ac6 cc6 X'.coming Hlc.out w8 K8.out.lt Hb8.out.size (K8.out.cell 0) Hev.out) belowK_t (belowK_b Hb8.out.size) (Below.refl _ _) (fun _ => rfl)
          (fun pre W => Blk W w6.heap.size 3 #[.int .i64 (Dr.lastOf X'.coming pre)] ∧ Blk W (w6.heap.size + 1) 3 #[.int .i64 (pre.length : Int)] ∧ Below w6.heap.size w6 W ∧ w8.heap.size ≤ W.heap.size)
          (fun _ pre _ => ∃ (p : List (Fin X'.coming.length)) (x : Fin X'.coming.length), pre = p ++ [x] ∧ X'.coming[x.1].at_ < Dr.lastOf X'.coming p) ?_ (fun _ => ItS.ownFrom_pure _ _) ⟨K15.out, K16.out, Hb8.out, Nat.le_refl _⟩
          (fun x a' W => ∃ g9, a' = comingFrame rb bd gb w6.heap.size (w6.heap.size + 1) g9 (fun i => a'.tmps.getD i undef) ∧ Blk W g9 66 X'.coming[x.1].cells.toArray) ?_ ?_ ?_ ?_ ?_)
        · exact (ItS.ownFrom_blk' _ _ _ (fun (pre : List (Fin X'.coming.length)) => #[.int .i64 (Dr.lastOf X'.coming pre)])).and ((ItS.ownFrom_blk' _ _ _ (fun (pre : List (Fin X'.coming.length)) => #[.int .i64 (pre.length : Int)])).and ((ownFrom_below (Nat.le_refl _) Hb8.out.size).and (fun _ W W' row h hg _ => Nat.le_trans h hg.size)))
        · rintro x a' _ W W' row ⟨g9, e, hb⟩ hg hr
          exact ⟨g9, e, ItS.ownFrom_blk (β := Unit) _ _ _ _ () W W' row hb hg hr⟩
        · rintro l pre x W K ⟨i1, i2, iB, iS⟩ hKa
          have HI := hide (And.intro i1 (And.intro i2 iB))
          have HiS := hide iS
          have HKa := hide hKa
          have HZ := hide (Blk.new W 66 EvV.zero.cells.toArray)
          clear i1 i2 iB iS hKa hK2
          dsimp only [ItV.encs]
          gi_wp2_with ((with_reducible refine ItS.wpListIn_store_row ?g2 66 (.tmp 17) (.tmp 66) ?o2 W.heap.size X'.coming[x.1].cells.toArray ?x2 ?y2 66 EvV.zero.cells.toArray ?k2 ?s2 ?l2 ?a2 ?_); (case g2 => exact rfl); (case o2 => exact rfl); (case x2 => exact rfl); (case y2 => exact rfl); (case k2 => exact HZ.out); (case s2 => exact Ev.sizeR _); (case l2 => simp [EvV.length]); (case a2 => exact EvV.all _))
          have hbY : Below W.heap.size W ((W.alloc (.cells EvV.zero.cells.toArray 66)).setRow W.heap.size X'.coming[x.1].cells.toArray) := below_setRow ((Below.refl _ W).alloc (Nat.le_refl _) _) (Nat.le_refl _) _
          have hWs : w6.heap.size ≤ W.heap.size := HI.out.2.2.size
          refine HKa.out _ _ ⟨hbY.size, fun j o _ hj _ => (hbY.block j (Array.getElem?_eq_some_iff.1 hj).1).trans hj⟩ (hbY.mono hWs) ⟨(hbY.block _ HI.out.1.lt).trans HI.out.1, (hbY.block _ HI.out.2.1.lt).trans HI.out.2.1, HI.out.2.2.trans (hbY.mono hWs), Nat.le_trans HiS.out hbY.size⟩ ⟨W.heap.size, rfl, HZ.out.setRow _⟩
        · rintro l pre ⟨i, hi⟩ a' W hl hrec ⟨i1, i2, iB, iS⟩ ⟨g9, ha, hk9⟩ hpre
          dsimp only at hi hk9 ha ⊢
          generalize (fun j => a'.tmps.getD j undef) = v at ha
          subst ha
          unfold comingFrame
          obtain ⟨e0, -⟩ := EvV.blk4 hk9
          have c1 : W.cell? ⟨w6.heap.size, 0, none⟩ = some (.int .i64 (Dr.lastOf X'.coming pre)) := i1.cell 0
          have c2 : W.cell? ⟨w6.heap.size + 1, 0, none⟩ = some (.int .i64 (pre.length : Int)) := i2.cell 0
          have f1 := i1.frozen 0
          have f2 := i2.frozen 0
          have h68 : w6.heap.size + 1 < w8.heap.size := K16.out.lt
          by_cases hx : X'.coming[i].at_ < Dr.lastOf X'.coming pre
          · have dx : decide (X'.coming[i].at_ < Dr.lastOf X'.coming pre) = true := decide_eq_true hx
            have Hx := hide hx
            have k1 : Blk W rb 4 #[.bool false] := (iB.block _ Kb6.out.lt).trans Kb6.out
            have cb := k1.cell 0
            have fb := k1.frozen 0
            have hrb6 := Kb6.out.lt
            clear hx hK2
            gi_wp2
            have hkf := ItS.keepsFrom_setCell (B := w8.heap.size) W (p := ⟨rb, 0, none⟩) (by dsimp only; omega) (.bool false)
            exact ⟨⟨hkf.size, hkf.same⟩, pre, ⟨i, hi⟩, rfl, Hx.out⟩
          · have dx : decide (X'.coming[i].at_ < Dr.lastOf X'.coming pre) = false := decide_eq_false hx
            have hpl : (pre.length : Int) < 65536 := by have := Hlc.out; omega
            have ewl : IntKind.i64.wrap ((pre.length : Int) + 1) = (pre.length : Int) + 1 := IntWalk.i64_in _ (by omega)
            clear hx hK2
            gi_wp2
            refine ⟨keepsFrom_two W (p := ⟨w6.heap.size, 0, none⟩) (p' := ⟨w6.heap.size + 1, 0, none⟩) (by dsimp only; omega) (by dsimp only; omega) _ _, ?_, ?_, ?_, ?_, ?_⟩
            · exact ((Below.refl w6.heap.size W).setCell (p := ⟨w6.heap.size, 0, none⟩) (Nat.le_refl _) _).setCell (p := ⟨w6.heap.size + 1, 0, none⟩) (by dsimp only; omega) _
            · rw [Dr.lastOf_snoc]
              have := (i1.set_ 0 (.int .i64 X'.coming[i].at_)).far (p := ⟨w6.heap.size + 1, 0, none⟩) (by simp) (.int .i64 ((pre.length : Int) + 1))
              exact this
            · have := (i2.far (p := ⟨w6.heap.size, 0, none⟩) (by simp) (.int .i64 X'.coming[i].at_)).set_ 0 (.int .i64 ((pre.length : Int) + 1))
              have e : ∀ y : Fin X'.coming.length, (((pre ++ [y]).length : Nat) : Int) = (pre.length : Int) + 1 := fun y => by simp
              rw [e]
              exact this
            · exact (iB.setCell (p := ⟨w6.heap.size, 0, none⟩) (Nat.le_refl _) _).setCell (p := ⟨w6.heap.size + 1, 0, none⟩) (by dsimp only; omega) _
            · simpa [World.setCell] using iS
        · rintro D' xs W hD rfl ⟨i1, i2, iB, iS⟩ hdef
          refine hK2 _ _ ?_
          clear hK2
          rw [ItS.upto_length (Nat.le_refl _)] at i2
          have hlD : D' < W.heap.size := (Array.getElem?_eq_some_iff.1 hdef).1
          have hb6D : w6.heap.size ≤ D' := Nat.le_trans Hb8.out.size hD
          have HdefW := hide (And.intro hdef (And.intro hlD hb6D))
          have HbW := hide iB
          have K16W := hide i2
          have hdW := Hd6.out.below iB
          have Hhap := hide (ItV.happened_any hdW)
          have hevh := ItV.EvsIn.of_own hdW.hap (fun g hg => Hd6.out.lt g (Hd6.out.inF.2.2.2.2 g hg))
          have hlh : X'.happened.length ≤ 65536 := by have := HG'.out.cnt; have := Hn1.out; omega
          have Hlh := hide hlh
          have kdW : Blk W bd 59 _ := (iB.block _ Kd6.out.lt).trans Kd6.out
          have cd := kdW.cell 0
          clear i1 i2 iB iS hdef hlD hdW hlh kdW
          go_wp2_with fail
          refine Hhap.out.mono ?_
          rintro e w9 ⟨rfl, hw9⟩
          have k9 := Blk.new W 118 #[.slice Ah6 X'.happened.length ch6]
          have hb9 : Below W.heap.size W (W.alloc (.cells #[.slice Ah6 X'.happened.length ch6] 118)) := (Below.refl _ W).alloc (Nat.le_refl _) _
          rw [hw9] at k9 hb9
          have K169 : Hid (Blk w9 (w6.heap.size + 1) 3 #[.int .i64 (X'.coming.length : Int)]) := hide ((hb9.block _ K16W.out.lt).trans K16W.out)
          have Hb9 := hide (HbW.out.trans (hb9.mono HbW.out.size))
          have HbW9 := hide hb9
          have Hevh := hide (hevh.below (hb9.mono HbW.out.size))
          have K9 := hide k9
          clear hw9 k9 hb9 hevh cd Hhap K16W
          go_wp2_with fail
          rename_i hK3
          refine (wpIn_wide (n := 9)).1 (wpIn_rangeFunc_ownH rfl (by omega) rfl trivial (fun _ _ => rfl) (encs := ItV.encs X'.happened) (Kp := Below w6.heap.size) (ItV.values_stops Fence.wide 8 trivial rfl (by omega) _ w6.heap.size Ah6 ch6 X'.happened Hlh.out w9 K9.out.lt Hb9.out.size (K9.out.cell 0) Hevh.out) belowK_t (belowK_b Hb9.out.size) (Below.refl _ _) (fun _ => rfl)
            (fun pre W => Blk W (w6.heap.size + 1) 3 #[.int .i64 ((X'.coming.length : Int) + (pre.length : Int))] ∧ Below w6.heap.size w6 W ∧ w9.heap.size ≤ W.heap.size ∧ W.heap[D']? = some (.deferred (some [])))
            (fun _ _ _ => False) ?_ (fun _ => ItS.ownFrom_pure _ _) ⟨by simpa using K169.out, Hb9.out, Nat.le_refl _, (HbW9.out.block _ HdefW.out.2.1).trans HdefW.out.1⟩
            (fun x a' W => ∃ g9, a' = happenedFrame rb bd gb (w6.heap.size + 1) g9 (fun i => a'.tmps.getD i undef) ∧ Blk W g9 66 X'.happened[x.1].cells.toArray) ?_ ?_ ?_ ?_ ?_)
          · refine (ItS.ownFrom_blk' _ _ _ (fun (pre : List (Fin X'.happened.length)) => #[.int .i64 ((X'.coming.length : Int) + (pre.length : Int))])).and ((ownFrom_below (Nat.le_refl _) Hb9.out.size).and (OwnFrom.and (fun _ W W' row h hg _ => Nat.le_trans h hg.size) ?_))
            exact fun _ W W' row h hg hr => (hg.block _ (Array.getElem?_eq_some_iff.1 h).1 (fun e => by
              have := (hr _ e.symm).1
              have h1 := HdefW.out.2.1
              have h2 := HbW9.out.size
              omega)).trans h
          · rintro x a' _ W W' row ⟨g9, e, hb⟩ hg hr
            exact ⟨g9, e, ItS.ownFrom_blk (β := Unit) _ _ _ _ () W W' row hb hg hr⟩
          · rintro l pre x W1 K ⟨i1, iB, iS, iD⟩ hKa
            have HI := hide (And.intro i1 (And.intro iB iD))
            have HiS := hide iS
            have HKa := hide hKa
            have HZ := hide (Blk.new W1 66 EvV.zero.cells.toArray)
            clear i1 iB iS iD hKa hK3
            dsimp only [ItV.encs]
            gi_wp2_with ((with_reducible refine ItS.wpListIn_store_row ?g3 66 (.tmp 18) (.tmp 77) ?o3 W1.heap.size X'.happened[x.1].cells.toArray ?x3 ?y3 66 EvV.zero.cells.toArray ?k3 ?s3 ?l3 ?a3 ?_); (case g3 => exact rfl); (case o3 => exact rfl); (case x3 => exact rfl); (case y3 => exact rfl); (case k3 => exact HZ.out); (case s3 => exact Ev.sizeR _); (case l3 => simp [EvV.length]); (case a3 => exact EvV.all _))
            have hbY : Below W1.heap.size W1 ((W1.alloc (.cells EvV.zero.cells.toArray 66)).setRow W1.heap.size X'.happened[x.1].cells.toArray) := below_setRow ((Below.refl _ W1).alloc (Nat.le_refl _) _) (Nat.le_refl _) _
            have hWs : w6.heap.size ≤ W1.heap.size := HI.out.2.1.size
            refine HKa.out _ _ ⟨hbY.size, fun j o _ hj _ => (hbY.block j (Array.getElem?_eq_some_iff.1 hj).1).trans hj⟩ (hbY.mono hWs) ⟨(hbY.block _ HI.out.1.lt).trans HI.out.1, HI.out.2.1.trans (hbY.mono hWs), Nat.le_trans HiS.out hbY.size, (hbY.block _ (Array.getElem?_eq_some_iff.1 HI.out.2.2).1).trans HI.out.2.2⟩ ⟨W1.heap.size, rfl, HZ.out.setRow _⟩
          · rintro l pre ⟨i, hi⟩ a' W1 hl hrec ⟨i1, iB, iS, iD⟩ ⟨g9, ha, hk9⟩ hpre
            dsimp only at hi hk9 ha ⊢
            generalize (fun j => a'.tmps.getD j undef) = v at ha
            subst ha
            unfold happenedFrame
            obtain ⟨e0, -⟩ := EvV.blk4 hk9
            have kd1 : Blk W1 bd 59 _ := (iB.block _ Kd6.out.lt).trans Kd6.out
            have cd := kd1.cell 0
            have hd1 := Hd6.out.below iB
            have Hdev := hide (fun q => DV.device_any (hd1.drewN q))
            have Hcnt := hide (fun q => DM.count_any (hd1.dev.drewN q))
            have dx : decide ((X'.D.n : Int) < X'.happened[i].at_) = false := decide_eq_false (by have := HK'.out.past _ (List.getElem_mem hi); omega)
            have h69 : w6.heap.size + 1 < w9.heap.size := K169.out.lt
            have hpl : (pre.length : Int) < 65536 := by have := Hlh.out; omega
            have hpl2 : (X'.coming.length : Int) ≤ 65536 := by have := Hlc.out; omega
            have ewl : IntKind.i64.wrap ((X'.coming.length : Int) + (pre.length : Int) + 1) = (X'.coming.length : Int) + (pre.length : Int) + 1 := IntWalk.i64_in _ (by omega)
            clear hd1 kd1 hK3
            gi_upto_region 27 with (fail)
            refine InRound.wpIn_region_quiet (by kernel_rfl) (by kernel_rfl) (by kernel_rfl) ?_
            repeat (quiet_step (first | (go_at_call 36; exact DM.quiet Hdev.out _) | (go_at_call 26; exact DM.quiet Hcnt.out _)))
            refine wpQuiet_nil ?_
            intro _ hw'
            obtain ⟨nq, hw''⟩ := hw'
            subst hw''
            have hbq : Below W1.heap.size W1 (W1.drewN nq) := (Mods.refl (fun _ => False) W1).drewN nq |>.below (Nat.le_refl _) (fun _ h => h.elim)
            have i1q : Blk (W1.drewN nq) (w6.heap.size + 1) 3 #[.int .i64 ((X'.coming.length : Int) + (pre.length : Int))] := i1
            clear e0 cd Hdev Hcnt
            generalize W1.drewN nq = Wq at hbq i1q ⊢
            have c2 : Wq.cell? ⟨w6.heap.size + 1, 0, none⟩ = some (.int .i64 ((X'.coming.length : Int) + (pre.length : Int))) := i1q.cell 0
            have f2 := i1q.frozen 0
            gi_wp2
            have hWs : w6.heap.size ≤ W1.heap.size := iB.size
            have hbs : Below w6.heap.size W1 (Wq.setCell ⟨w6.heap.size + 1, 0, none⟩ (.int .i64 ((X'.coming.length : Int) + (pre.length : Int) + 1))) := (hbq.mono hWs).setCell (p := ⟨w6.heap.size + 1, 0, none⟩) (by dsimp only; omega) _
            refine ⟨keepsFrom_then hbq (p := ⟨w6.heap.size + 1, 0, none⟩) (by dsimp only; omega) _, hbs, ?_, iB.trans hbs, Nat.le_trans iS hbs.size, ?_⟩
            · have := i1q.set_ 0 (.int .i64 ((X'.coming.length : Int) + (pre.length : Int) + 1))
              have e : ∀ y : Fin X'.happened.length, (X'.coming.length : Int) + (((pre ++ [y]).length : Nat) : Int) = (X'.coming.length : Int) + (pre.length : Int) + 1 := fun y => by simp; omega
              rw [e]
              exact this
            · have hDl := (Array.getElem?_eq_some_iff.1 iD).1
              have hne : D' ≠ w6.heap.size + 1 := fun e => by
                have h1 : W1.heap[w6.heap.size + 1]? = some _ := i1
                rw [e] at iD
                rw [iD] at h1
                cases h1
              exact (Below.heap_setCell _ ⟨w6.heap.size + 1, 0, none⟩ _ D' hne).trans ((hbq.block _ hDl).trans iD)
          · rintro D2 xs W1 hD2 rfl ⟨i1, iB, iS, iD⟩ hdef2
            refine hK3 _ _ ?_
            clear hK3
            rw [ItS.upto_length (Nat.le_refl _)] at i1
            have c16 : W1.cell? ⟨w6.heap.size + 1, 0, none⟩ = some (.int .i64 ((X'.coming.length : Int) + (X'.happened.length : Int))) := i1.cell 0
            have d30 : (((X'.coming.length : Int) + (X'.happened.length : Int)) != p2) = false := by
              rw [Hp2.out, ← HK'.out.sum]
              simp
              omega
            have hlD2 : D2 < W1.heap.size := (Array.getElem?_eq_some_iff.1 hdef2).1
            have Hrel : Hid (OrderInv w rb bd gb q d (X0.playTo ps (k + 1)) (D2 :: D' :: Ds) W1) := hide (by
              rw [Hs1.out]
              refine ⟨HR6.out.more (fun b hb => ?_) iB, (iB.block _ Kb6.out.lt).trans Kb6.out, (iB.block _ Kd6.out.lt).trans Kd6.out, fun D hD => ?_, ?_⟩
              · rcases hb with h | h | h
                · exact .inl (.inl h)
                · exact .inl (.inr (.inl h))
                · rcases List.mem_cons.1 h with rfl | h
                  · exact .inr ⟨by have := Hb9.out.size; omega, hlD2⟩
                  · rcases List.mem_cons.1 h with rfl | h
                    · exact .inr ⟨HdefW.out.2.2, (Array.getElem?_eq_some_iff.1 iD).1⟩
                    · exact .inl (.inr (.inr h))
              · have hrb6 := Kb6.out.lt
                rcases List.mem_cons.1 hD with rfl | h
                · exact ⟨hdef2, by have := Hb9.out.size; omega⟩
                · rcases List.mem_cons.1 h with rfl | h
                  · exact ⟨iD, by have := HdefW.out.2.2; omega⟩
                  · have h9 := HDs6.out D h
                    exact ⟨(iB.block D (Array.getElem?_eq_some_iff.1 h9.1).1).trans h9.1, h9.2⟩
              · have hin : ∀ D ∈ Ds, D < w6.heap.size := fun D h => (Array.getElem?_eq_some_iff.1 (HDs6.out D h).1).1
                refine List.nodup_cons.2 ⟨fun hm => ?_, List.nodup_cons.2 ⟨fun hm => ?_, HDs.out.2⟩⟩
                · have h1 := HdefW.out.2.1
                  have h2 := HbW9.out.size
                  have h3 := Hb9.out.size
                  rcases List.mem_cons.1 hm with rfl | h
                  · omega
                  · have := hin _ h; omega
                · have h1 := HdefW.out.2.2
                  have := hin _ hm
                  omega)
            have hk60 : ps.length ≤ 60 := Hn1.out
            clear i1 iB iS iD hdef2
            go_wp2_with fail
            exact ⟨⟨k + 1, p2, D2 :: D' :: Ds, by first | rfl | (simp only [Int.natCast_add]; rfl), by omega, Hp2.out, Hrel.out, by rw [Hs1.out]; exact HK'.out⟩, by simp [intOf]; omega⟩
          · exact fun _ _ _ _ _ _ h _ => h.elim
        · rintro D' cc pre W hD ⟨q, hq, rfl⟩ ⟨p, x, hp, hx⟩ hdef
          exact absurd (Dr.lastOf_le HG'.out.srt HK'.out.pos hq hp) (by omega)
  · obtain rfl : k = ps.length := by omega
    clear Hsucc
    have Hw := hide HR.out.world
    have c0 := Hkb.out.cell 0
    have f0 := Hkb.out.frozen 0
    go_wp2_with fail
    refine ItS.leaves_marks Ds _ (fun D hD => ?_) HDs.out.2 (fun w' hw' => ?_)
    · have h9 := HDs.out.1 D hD
      exact (Below.heap_setCell wr ⟨rb, 0, none⟩ _ D (by have := h9.2; dsimp only; omega)).trans h9.1
    · have hn : rb ∉ Ds := fun hD => by have := (HDs.out.1 _ hD).2; omega
      have hc : w'.cell? ⟨rb, 0, none⟩ = some (.bool true) := by
        have hk : w'.heap[rb]? = (wr.setCell ⟨rb, 0, none⟩ (.bool true)).heap[rb]? := hw'.2.2.2.2 _ hn
        have := (Hkb.out.set_ 0 (.bool true)).of_heap hk rfl
        simpa using this.cell 0
      refine ⟨.bool true, by simp [results, Try.f9, go_sem, hc], rfl, ?_⟩
      have := Hrb.out
      exact (Hw.out.setCell (p := ⟨rb, 0, none⟩) (by dsimp only; omega) _).trans (ItS.below_marks hw' (fun D hD => by have := (HDs.out.1 D hD).2; omega))
end Go.Proofs.Ytdinbhanekpjoaa

/-
  PlanOrder answers true for every number of zones, size, bound and slice of steps, and each argument reads behind the call as it read before: no condition.
-/
namespace Go.Proofs.Ytdinbhanekpjoaa.planOrder
open Go.ChangeShapes Go.WideShapes Go.ChangeAt Go.RowKit

set_option maxRecDepth 100000 in
set_option maxHeartbeats 2000000 in
theorem any (zones size op : Int) (A1 : Option Addr) (cap1 : Nat) (ps : List OpP) (w : World) (h1 : CameOps8 w A1 ps) (b1 : ps.length ≤ maxLen) :
    Calls Try.prog 9 #[.int .i64 zones, .int .i64 size, .int .i64 op, .slice A1 ps.length cap1] w fun e w' => e = .returned (.bool true) ∧ Below w.heap.size w w' := by
  unfold maxLen at b1
  by_cases hr : 1 ≤ zones ∧ zones ≤ 40 ∧ 1 ≤ size ∧ size ≤ 64 ∧ 1 ≤ op ∧ op ≤ 64
  · obtain ⟨r1, r2, r3, r4, r5, r6⟩ := hr
    obtain ⟨n, rfl⟩ := Int.eq_ofNat_of_zero_le (show 0 ≤ zones by omega)
    by_cases hlen : ps.length ≤ 60
    · exact order8_walk n size op A1 cap1 ps w h1 (by omega) (by omega) r3 r4 r5 r6 hlen
    · have d3 : decide (60 < ps.length) = true := decide_eq_true (by omega)
      have d4 : decide ((60 : Int) < (ps.length : Int)) = true := decide_eq_true (by omega)
      have Hs := hide (fun w => started_yes n size op w (by omega) (by omega) r3 r4 r5 r6)
      clear h1 r1 r2 r3 r4 r5 r6 hlen b1
      go_enter Try.func9, Try.ntmps9
      go_upto_region 1 with (fail)
      have hb0 : Below w.heap.size w (w.alloc (.cells #[.bool false] 4)) := (Below.refl _ w).alloc (Nat.le_refl _) _
      have kb := Blk.new w 4 #[.bool false]
      generalize w.alloc _ = w0 at hb0 kb ⊢
      go_wp2_with fail
      refine (anchor8_any _).mono ?_
      rintro e w1 ⟨rfl, hb1⟩
      have kb1 : Blk w1 w.heap.size 4 _ := (hb1.block _ kb.lt).trans kb
      go_wp2_with fail
      refine (Hs.out _).mono ?_
      rintro e w2 ⟨q, d, A', c', rfl, F, G, es', hT, hb2, hF, hG⟩
      clear hT hF hG
      unfold agg8
      have kb2 : Blk w2 w.heap.size 4 _ := (hb2.block _ kb1.lt).trans kb1
      have c4 := kb2.cell 0
      have f4 := kb2.frozen 0
      have l4 := kb2.lt
      clear kb kb1
      go_wp2_with fail
      refine bodyPost_ret (v := .bool true) (by simp [results, Try.f9, go_sem, c4, l4]) rfl ⟨rfl, ?_⟩
      exact (((((hb0.trans (hb1.mono hb0.size)).trans (hb2.mono (Nat.le_trans hb0.size hb1.size))).setCell (p := ⟨w.heap.size, 0, none⟩) (Nat.le_refl _) _).alloc (by have := hb0.size; have := hb1.size; have := hb2.size; simp; try omega) _).alloc (by have := hb0.size; have := hb1.size; have := hb2.size; simp; try omega) _)
  · have Hs := hide (fun w => started_no zones size op w hr)
    clear h1 hr b1
    go_enter Try.func9, Try.ntmps9
    go_upto_region 1 with (fail)
    have hb0 : Below w.heap.size w (w.alloc (.cells #[.bool false] 4)) := (Below.refl _ w).alloc (Nat.le_refl _) _
    have kb := Blk.new w 4 #[.bool false]
    generalize w.alloc _ = w0 at hb0 kb ⊢
    go_wp2_with fail
    refine (anchor8_any _).mono ?_
    rintro e w1 ⟨rfl, hb1⟩
    have kb1 : Blk w1 w.heap.size 4 _ := (hb1.block _ kb.lt).trans kb
    go_wp2_with fail
    refine (Hs.out _).mono ?_
    rintro e w2 ⟨rfl, hb2⟩
    have kb2 : Blk w2 w.heap.size 4 _ := (hb2.block _ kb1.lt).trans kb1
    have c4 := kb2.cell 0
    have f4 := kb2.frozen 0
    have l4 := kb2.lt
    clear kb kb1
    go_wp2_with fail
    refine bodyPost_ret (v := .bool true) (by simp [results, Try.f9, go_sem, c4, l4]) rfl ⟨rfl, ?_⟩
    exact (((((hb0.trans (hb1.mono hb0.size)).trans (hb2.mono (Nat.le_trans hb0.size hb1.size))).setCell (p := ⟨w.heap.size, 0, none⟩) (Nat.le_refl _) _).alloc (by have := hb0.size; have := hb1.size; have := hb2.size; simp; try omega) _).alloc (by have := hb0.size; have := hb1.size; have := hb2.size; simp; try omega) _)

theorem own : ownKnob Try.prog.godebug = none := by kernel_rfl
theorem laidOut : laidOutB Try.prog = true := by kernel_rfl

set_option maxRecDepth 100000 in
theorem lifted (os : Os) (started : os.Started) (H : Type) (enc : TypeId × Value → H) :
    ReturnsInHanded {} Try.checked os 9 .any (Rows.planOrderSpec.pre6 enc Try.prog Try.f9 Rows.planOrderRow.domain false) (Rows.planOrderSpec.post enc Try.prog Try.f9 false true false false) := by
  refine returnsInHanded_of_change (C := Try.checked) own started (by kernel_rfl) Try.func9
    (ChangeSpec.witness6 (enc := enc) (C := Try.checked) false ⟨#[], #[.int .i64 0, .int .i64 0, .int .i64 0, .slice none 0 0], []⟩ 8 (by kernel_rfl) (by kernel_rfl) (by kernel_rfl) (by kernel_rfl)) ?_
  intro W base args ds gs before hval0 hW hcnd _
  have hval : ∀ (j : Nat) t v, Try.f9.params[j]? = some t → args[j]? = some v → Value.okWide Try.prog W .any base t v := hval0
  have hW' := hW
  obtain ⟨p, q, hA0, hV, rfl, hfz, hnd⟩ := hW
  have hA : DataW.TrodAll enc Try.prog W 0 (fun _ => true) true Try.f9.params.toList args.toList ds p := hA0
  rw [Try.params9] at hA hval
  obtain ⟨v0, v1, v2, v3, d0, d1, d2, d3, p0, p1, p2, p3, rfl, rfl, rfl, h0, h1, h2, h3⟩ := trodAll_four hA
  obtain ⟨rfl, rfl⟩ := trodVars_none hV
  obtain ⟨zones, rfl, rfl, rfl, wa⟩ := open_int Try.underlying3 (hval 0 3 v0 rfl rfl) h0
  obtain ⟨size, rfl, rfl, rfl, wb⟩ := open_int Try.underlying3 (hval 1 3 v1 rfl rfl) h1
  obtain ⟨op, rfl, rfl, rfl, wc⟩ := open_int Try.underlying3 (hval 2 3 v2 rfl rfl) h2
  obtain ⟨a1, len1, cap1, rfl⟩ := okWide_slice Try.underlying58 (hval 3 58 v3 rfl rfl)
  clear hA0 hval0
  have hlt1 : ∀ x ∈ p3, x.block < W.heap.size := fun x hx => hW'.lt x (by simp [hx])
  obtain ⟨hm1, ps1, rfl, hc1⟩ := ops8_came h3 rfl
  refine (any zones size op a1 cap1 ps1 W hc1 hm1).mono fun e W' ⟨he, hb⟩ => ?_
  subst he
  refine ⟨_, rfl, _, _, _, [], [] ++ [] ++ [] ++ p3, [], hW', trodAll_mk1 (shut_bool Try.underlying4 true), ?_, rfl, hb.frame _, fun h => by cases h⟩
  exact trodAll_mk4 (shut_int Try.underlying3 wa) (shut_int Try.underlying3 wb) (shut_int Try.underlying3 wc) (Below.trod laidOut (by kernel_rfl) (of_decide_eq_true (by kernel_rfl)) h3 hb hlt1)

theorem proved : Rows.PlanOrderSaid :=
  OpenClaim.holds_of_wide 9 Try.f9 rfl rfl rfl rfl rfl rfl rfl ⟨rfl, rfl, rfl, rfl, rfl⟩ rfl rfl rfl rfl rfl (by kernel_rfl) Try.func9 (by kernel_rfl)
    (of_decide_eq_true (by kernel_rfl)) (by unfold Func.isWrapper; first | (rw [if_pos (by decide +kernel)]; kernel_rfl) | (rw [if_neg (by decide +kernel)]; exact ⟨rfl, rfl⟩))
    (fun os started H enc _ => lifted os started H enc)
end Go.Proofs.Ytdinbhanekpjoaa.planOrder
