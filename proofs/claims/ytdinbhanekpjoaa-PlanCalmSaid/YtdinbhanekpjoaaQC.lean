/-
  What PlanCalm says, in plain words: a drive to which nothing is planned is its device.
-/
import Derived.Test.YtdinbhanekpjoaaQO
import Derived.Test.YtdinbhanekpjoaaQE
import Derived.Test.YtdinbhanekpjoaaItS
import Derived.Test.YtdinbhanekpjoaaQD
import Derived.Laws.Tables
import Derived.ProofKit
namespace Go.Proofs.Ytdinbhanekpjoaa
open Go.RowKit
section
variable {w w1 w2 wr : World} {E E' : Nat → Prop} {g q d : Nat} {X : Dr}
/-- The beginning, where blocks that the law made ahead of it are the law's own. -/
theorem Rel8.start2 {A' : Option Addr} {c' : Nat} {Ac' : Option Addr} {cc' : Nat} {Ah' : Option Addr} {ch' : Nat} (hB : Below w.heap.size w w1) (h : Begun8 w1 q d X A' c' Ac' cc' Ah' ch' w2) : Rel8 w (fun k => w.heap.size ≤ k ∧ k < w1.heap.size) w2.heap.size q d X (w2.alloc (.cells #[.slice A' X.D.zs.length c', .int .i64 X.D.size, .int .i64 X.D.op, .int .i64 (X.D.n : Int), .bool X.D.down, .slice Ac' X.coming.length cc', .slice Ah' X.happened.length ch'] 62)) := by
  obtain ⟨F, G, es', hT, hb2, hF, hG⟩ := h
  have s1 := hB.size
  have s2 := hb2.size
  have hlt := hT.lt
  have hb := (Below.refl w2.heap.size w2).alloc (Nat.le_refl _) (.cells #[.slice A' X.D.zs.length c', .int .i64 X.D.size, .int .i64 X.D.op, .int .i64 (X.D.n : Int), .bool X.D.down, .slice Ac' X.coming.length cc', .slice Ah' X.happened.length ch'] 62)
  have hm := Mods.of_below hb (fun _ => False)
  have hz : (w2.alloc (.cells #[.slice A' X.D.zs.length c', .int .i64 X.D.size, .int .i64 X.D.op, .int .i64 (X.D.n : Int), .bool X.D.down, .slice Ac' X.coming.length cc', .slice Ah' X.happened.length ch'] 62)).heap.size = w2.heap.size + 1 := World.size_alloc _ _
  exact ⟨F, G, A', c', es', Ac', cc', Ah', ch', ⟨hT.drv.mods hm (fun _ _ h => h), hT.ref.below hb, hT.apart, fun k hk => by have := hT.old k hk; omega⟩, Blk.new _ _ _, fun hk => by have := hlt _ hk; omega, fun hk => by have := hT.old _ hk; omega, fun h => by omega, fun k hk => by have := hF k hk; omega, fun k hk => by have := hG k hk; omega, fun k hk => ⟨fun h => by have := hF k h; omega, fun h => by have := hG k h; omega, by omega⟩, ((hB.trans (hb2.mono s1)).trans (hb.mono (by omega))), by omega⟩
theorem Rel8.sub (h : Rel8 w E g q d X wr) (hE : ∀ k, E' k → E k) : Rel8 w E' g q d X wr := by
  obtain ⟨F, G, A', c', es', Ac', cc', Ah', ch', hT, hg, a1, a2, a3, a4, a5, a6, a7, a8⟩ := h
  exact ⟨F, G, A', c', es', Ac', cc', Ah', ch', hT, hg, a1, a2, fun h => a3 (hE _ h), a4, a5, fun k hk => a6 k (hE k hk), a7, a8⟩
end
namespace Dv
theorem down_put (D : Dv) (k : Nat) (z : Zn Sec) : (D.put k z).down = D.down := rfl
theorem down_begin (D : Dv) (z : Int) : (D.begin_ z).1.down = D.down := by
  rcases R7.begin_fst D z with e | e <;> rw [e]
  rfl
theorem down_append (D : Dv) (z : Int) (s : Sec) : (D.append z s).1.down = D.down := by
  unfold append
  split
  · exact down_begin D z
  · split
    · split <;> rfl
    · rfl
theorem down_read (D : Dv) (z off : Int) : (D.read z off).1.down = D.down := by
  unfold read
  split
  · exact down_begin D z
  · split <;> rfl
theorem down_answer (D : Dv) (z : Int) (f : Zn Sec → Zn Sec × Int) : (D.answer z f).1.down = D.down := by
  unfold answer
  split
  · exact down_begin D z
  · split <;> rfl
theorem down_flush (D : Dv) : D.flush.1.down = D.down := by
  unfold flush
  split <;> rfl
end Dv
theorem Marks.upd_none (z off : Int) : Marks.none.upd z off (Sec.zero, 0) = Marks.none := by
  funext a b
  unfold Marks.upd
  split <;> rfl
theorem Marks.forget_of_none (s z f : Int) : Marks.none.forget s z f = Marks.none := by
  funext a b
  unfold Marks.forget
  split <;> rfl
namespace Dr
theorem rev_none (D : Dv) : ∀ k, revTo Marks.none D k = Marks.none
  | 0 => rfl
  | k + 1 => by rw [revTo, rev_none D k, Marks.forget_of_none]
/-- Nothing is to come, nothing happened, nothing is spoilt. -/
structure Calm (X : Dr) : Prop where
  coming : X.coming = []
  happened : X.happened = []
  marks : X.marks = Marks.none
  down : X.D.down = false
theorem Calm.due {X : Dr} (h : X.Calm) : X.due = X := due_nil h.coming
theorem Calm.begin {X : Dr} (h : X.Calm) (z : Int) : X.begin_ z = X := by
  unfold begin_
  split
  · exact h.due
  · rfl
theorem Calm.play {X : Dr} (h : X.Calm) (p : OpP) (hk : p.o.kind ≤ 6) : (X.play p).Calm := by
  have hb := h.begin p.o.zone
  have hd := h.due
  unfold Dr.play
  split
  · unfold Dr.append
    rw [hb]
    refine ⟨h.coming, h.happened, ?_, (Dv.down_append _ _ _).trans h.down⟩
    show (if _ then _ else _) = _
    rw [h.marks, Marks.upd_none]
    split <;> rfl
  split
  · unfold Dr.read
    rw [hb]
    exact ⟨h.coming, h.happened, h.marks, (Dv.down_read _ _ _).trans h.down⟩
  split
  · unfold Dr.reset
    rw [hb]
    refine ⟨h.coming, h.happened, ?_, (Dv.down_answer _ _ _).trans h.down⟩
    show (if _ then _ else _) = _
    rw [h.marks, Marks.forget_of_none]
    split <;> rfl
  split
  · unfold Dr.finish
    rw [hb]
    exact ⟨h.coming, h.happened, h.marks, (Dv.down_answer _ _ _).trans h.down⟩
  split
  · unfold Dr.flush
    rw [hd]
    exact ⟨h.coming, h.happened, h.marks, (Dv.down_flush _).trans h.down⟩
  split
  · unfold Dr.revive
    rw [h.marks, rev_none, Dv.revive_up _ (by rw [h.down]; simp)]
    exact ⟨h.coming, h.happened, rfl, h.down⟩
  split
  · omega
  split
  · omega
  · exact h
theorem Calm.made (k : Nat) (size op : Int) : (DV.Dr.made k size op).Calm := ⟨rfl, rfl, rfl, rfl⟩
/-- A step of PlanCalm: none is planned. -/
def playC (X : Dr) (p : OpP) : Dr := if p.o.kind ≤ 6 then X.play p else X
def playCTo (X : Dr) (ps : List OpP) (k : Nat) : Dr := (ps.take k).foldl playC X
theorem playCTo_zero (X : Dr) (ps : List OpP) : X.playCTo ps 0 = X := rfl
theorem playCTo_succ (X : Dr) (ps : List OpP) (k : Nat) (hk : k < ps.length) : X.playCTo ps (k + 1) = (X.playCTo ps k).playC ps[k] := by
  unfold playCTo
  rw [List.take_succ_eq_append_getElem hk, List.foldl_append]
  rfl
theorem Calm.playCTo {m : Nat} {X : Dr} (h : X.Good m) (hc : X.Calm) {ps : List OpP} (hp : ∀ p ∈ ps, p.Fits) : ∀ k, k ≤ ps.length → m + k < 200 → (X.playCTo ps k).Good (m + k) ∧ X.D.Like (X.playCTo ps k).D ∧ (X.playCTo ps k).Calm
  | 0, _, _ => ⟨h, .refl _, hc⟩
  | k + 1, hk, hm => by
    obtain ⟨h1, h2, h3⟩ := Calm.playCTo h hc hp k (by omega) (by omega)
    rw [playCTo_succ X ps k (by omega)]
    unfold playC
    split
    · rename_i h6
      obtain ⟨h4, h5⟩ := h1.play (by omega) (hp _ (List.getElem_mem (show k < ps.length by omega)))
      exact ⟨h4, h2.trans h5, h3.play _ h6⟩
    · exact ⟨h1.mono (by omega), h2, h3⟩
end Dr
end Go.Proofs.Ytdinbhanekpjoaa

/-
  A drive's Spoilt.
-/
namespace Go.Proofs.Ytdinbhanekpjoaa.DV
open Go.RowKit
section
variable {w : World} {q d : Nat} {X : Dr} {F FD : Nat → Prop} {A : Option Addr} {c : Nat} {bs : List Nat} {Fs : Nat → Nat → Prop} {mb n : Nat} {Ac : Option Addr} {cc : Nat} {Ah : Option Addr} {ch : Nat}
set_option maxRecDepth 100000 in
set_option maxHeartbeats 2000000 in
theorem spoilt_any (h : DrvIs w q d X F FD A c bs Fs mb n Ac cc Ah ch) (z off : Int) (hz : fits z) (ho : fits off) :
    Calls Try.prog 40 #[.pointer (some ⟨q, 0, none⟩), .int .i64 z, .int .i64 off] w fun e w' => e = .returned (.tuple #[(X.marks z off).1.agg, .int .i64 (X.marks z off).2]) ∧ Below w.heap.size w w' := by
  have hb1 : Below w.heap.size w (w.alloc (.cells Sec.zero.cs.toArray 34)) := (Below.refl _ w).alloc (Nat.le_refl _) _
  have ks := Blk.new w 34 Sec.zero.cs.toArray
  have h1 := h.below hb1
  have Hz := hide hz
  have Ho := hide ho
  clear h hz ho
  go_enter Try.func40, Try.ntmps40
  go_upto_region 1 with (fail)
  generalize hWA : World.alloc w _ = W1
  have hWA' : w.alloc (.cells Sec.zero.cs.toArray 34) = W1 := hWA
  rw [hWA'] at hb1 ks h1
  clear hWA hWA'
  obtain ⟨-, -, -, c3, -⟩ := h1.cells
  have H1 := hide h1
  have Ks := hide ks
  have Hb1 := hide hb1
  have HZ := hide (Blk.new W1 124 Try.zeroCells124)
  clear hb1 ks h1
  have hks : Blk ((W1.alloc (.cells Try.zeroCells124 124)).setRow W1.heap.size ((X.marks z off).1.cs ++ [Value.int .i64 (X.marks z off).2]).toArray) W1.heap.size 124 ((X.marks z off).1.cs ++ [Value.int .i64 (X.marks z off).2]).toArray := HZ.out.setRow ((X.marks z off).1.cs ++ [Value.int .i64 (X.marks z off).2]).toArray
  have hb2 : Below W1.heap.size W1 ((W1.alloc (.cells Try.zeroCells124 124)).setRow W1.heap.size ((X.marks z off).1.cs ++ [Value.int .i64 (X.marks z off).2]).toArray) := below_setRow ((Below.refl _ W1).alloc (Nat.le_refl _) _) (Nat.le_refl _) _
  go_upto_region 2 with (first | ((with_reducible refine wpList_lookup_mark ?g1 (.tmp 12) (.tmp 15) ?o1 ?m1 H1.out.map ?x1 Hz.out Ho.out ?_); (case g1 => exact rfl); (case o1 => exact rfl); (case m1 => exact rfl); (case x1 => exact rfl); unfold markV) | ((with_reducible refine wpList_store_row ?g2 124 (.tmp 8) (.tmp 16) ?o2 W1.heap.size ((X.marks z off).1.cs ++ [Value.int .i64 (X.marks z off).2]).toArray ?x2 ?y2 124 Try.zeroCells124 ?k2 ?s2 ?l2 ?a2 ?_); (case g2 => exact rfl); (case o2 => exact rfl); (case x2 => exact rfl); (case y2 => exact rfl); (case k2 => exact HZ.out); (case s2 => exact sizeMark _); (case l2 => rw [zc_mark_size]; simp [Sec.len]); (case a2 => exact mark_all _)))
  generalize hWB : World.setRow _ _ _ = W2
  have hWB' : (W1.alloc (.cells Try.zeroCells124 124)).setRow W1.heap.size ((X.marks z off).1.cs ++ [Value.int .i64 (X.marks z off).2]).toArray = W2 := hWB
  rw [hWB'] at hks hb2
  clear hWB hWB' HZ c3
  obtain ⟨m0, m1⟩ := mark_cells (show Blk W2.drew W1.heap.size 124 _ from hks)
  have ks2 : Blk W2 w.heap.size 34 Sec.zero.cs.toArray := (hb2.block _ Ks.out.lt).trans Ks.out
  have Ks2 := hide ks2
  have Hb2 := hide (Hb1.out.trans (hb2.mono Hb1.out.size))
  clear hks hb2 ks2
  have hgm : w.heap.size < W1.heap.size := Ks.out.lt
  generalize W1.heap.size = gm at m0 m1 hgm ⊢
  have Hgm := hide hgm
  clear hgm
  have Ks3 := hide (show Blk W2.drew w.heap.size 34 Sec.zero.cs.toArray from Ks2.out)
  have HS := hide (And.intro m0 m1)
  refine wp_region_held_drew (S := fun w' => w'.rangeAt gm 0 (X.marks z off).1.cs ∧ w'.cell? ⟨gm, 64, none⟩ = some (.int .i64 (X.marks z off).2)) (by kernel_rfl) ⟨m0, m1⟩ (fun hHeld => ?_)
  refine wpAnyH_take (i := 0) (oi := ⟨_, _, _, _, _, _⟩) (v := ?_) rfl (by kernel_rfl) (by kernel_rfl) (by kernel_rfl) (fun _ _ _ h => h) (Or.inl ⟨by rfl, ?_⟩) hHeld ?_
  rotate_left
  · intro w' hS
    obtain ⟨x0, x1⟩ := hS
    go_simp
    first | done | with_reducible rfl
  try simp only [Act.put, List.setIfInBounds_toArray, List.set_cons_zero, List.set_cons_succ]
  refine wpAnyH_take (i := 1) (oi := ⟨_, _, _, _, _, _⟩) (v := .agg (X.marks z off).1.cs.toArray) rfl (by kernel_rfl) (by kernel_rfl) (by kernel_rfl) (fun _ _ _ h => h) (yieldsIf_load_mid (by rfl) 34 (.tmp 17) rfl gm (0) rfl (X.marks z off).1.cs _ (fun w' hS => hS.1) Try.underlying34 rfl (ZD.sizeSec _)) hHeld ?_
  try simp only [Act.put, List.setIfInBounds_toArray, List.set_cons_zero, List.set_cons_succ]
  refine wpAnyH_take (i := 2) (oi := ⟨_, _, _, _, _, _⟩) (v := ?_) rfl (by kernel_rfl) (by kernel_rfl) (by kernel_rfl) (fun _ _ _ h => h) (Or.inl ⟨by rfl, ?_⟩) hHeld ?_
  rotate_left
  · intro w' hS
    obtain ⟨x0, x1⟩ := hS
    go_simp
    first | done | with_reducible rfl
  try simp only [Act.put, List.setIfInBounds_toArray, List.set_cons_zero, List.set_cons_succ]
  refine wpAnyH_take (i := 3) (oi := ⟨_, _, _, _, _, _⟩) (v := ?_) rfl (by kernel_rfl) (by kernel_rfl) (by kernel_rfl) (fun _ _ _ h => h) (Or.inl ⟨by rfl, ?_⟩) hHeld ?_
  rotate_left
  · intro w' hS
    obtain ⟨x0, x1⟩ := hS
    go_simp
    first | done | with_reducible rfl
  try simp only [Act.put, List.setIfInBounds_toArray, List.set_cons_zero, List.set_cons_succ]
  refine wpAnyH_ready (rs := [4]) (by kernel_rfl) (by simp) ?_
  refine AllReadyH.cons rfl (fun K hK => ?_) AllReadyH.nil
  rw [if_pos (by rfl)]
  refine wp_store_row 34 (.tmp 6) (.tmp 18) rfl w.heap.size (X.marks z off).1.cs.toArray rfl rfl 34 Sec.zero.cs.toArray Ks3.out (ZD.sizeRow _) (by simp [Sec.len]) (sec_all _) ?_
  have hmR := (Mods.refl (fun k => k = w.heap.size) W2.drew).setRow (g := w.heap.size) (.inl rfl) (X.marks z off).1.cs.toArray
  refine hK.out _ _ ⟨R7.range_mods m0 hmR (by have := Hgm.out; omega), (hmR.cell (p := ⟨gm, 64, none⟩) (World.block_lt_of_cell? _ _ m1) (by have := Hgm.out; dsimp only; omega)).trans m1⟩ (fun hHeld => ?_)
  clear hK K
  try simp only [Act.put, List.setIfInBounds_toArray]
  refine wpAnyH_take (i := 5) (oi := ⟨_, _, _, _, _, _⟩) (v := ?_) rfl (by kernel_rfl) (by kernel_rfl) (by kernel_rfl) (fun _ _ _ h => h) (Or.inl ⟨by rfl, ?_⟩) hHeld ?_
  rotate_left
  · intro w' hS
    obtain ⟨x0, x1⟩ := hS
    go_simp
    first | done | with_reducible rfl
  try simp only [Act.put]
  refine wpAnyH_done (by kernel_rfl) ?_ _
  go_wp2_with fail
  refine bodyPost_ret (v := .tuple #[(X.marks z off).1.agg, .int .i64 (X.marks z off).2]) ?_ rfl ?_
  · exact results_sec2 (fn := Try.f40) (p := 6) (u := 7) rfl Try.underlying34 ZD.sizeS _ _ _ rfl rfl (Ks3.out.setRow _)
  · exact ⟨rfl, below_setRow Hb2.out.drew (Nat.le_refl _) _⟩
end
end Go.Proofs.Ytdinbhanekpjoaa.DV

/-
  slices.Values over a slice of events: its contract.
-/
namespace Go.Proofs.Ytdinbhanekpjoaa.ItV
open Go.RowKit Go.Shelf

attribute [local go_sem] Oper.semAt_some

abbrev encs (zs : List EvV) (j : Fin zs.length) : Array Value := #[.agg zs[j.1].cells.toArray]
/-- The slice value .slice A n c holds the events zs, in a block below n₀. -/
def EvsIn (n₀ : Nat) (W : World) (A : Option Addr) (zs : List EvV) : Prop :=
  ∀ j (h : j < zs.length), ∃ b, A = some ⟨b, 0, none⟩ ∧ b < n₀ ∧ W.rangeAt b (j * 68) zs[j].cells
theorem EvsIn.below {n₀ : Nat} {X Y : World} (h : Below n₀ X Y) {A : Option Addr} {zs : List EvV} (hi : EvsIn n₀ X A zs) : EvsIn n₀ Y A zs := fun j hj => by
  obtain ⟨b, e, hb, hc⟩ := hi j hj
  exact ⟨b, e, hb, ItS.range_below h hb hc⟩
theorem EvsIn.of_own {w : World} {A : Option Addr} {c n₀ : Nat} {zs : List EvV} {e : TypeId} (h : w.ownsRow 0 e 68 (.slice A zs.length c) zs.length (zs.flatMap EvV.cells)) (hb : ∀ g, blkOf A = some g → g < n₀) : EvsIn n₀ w A zs := fun j hj => by
  obtain ⟨b, off, hA, -, -, hr⟩ := (Evs.of_own (G := fun _ => True) h (fun _ _ => trivial)).at_ hj
  have hoff : off = 0 := by
    rcases h.2 with ⟨h', h0⟩ | ⟨g', cap, cur, h', _⟩
    · omega
    · simp only [Value.slice.injEq] at h'
      rw [hA] at h'
      simp only [Option.some.injEq, Addr.mk.injEq] at h'
      exact h'.1.2.1
  subst hoff
  rw [Nat.zero_add] at hr
  exact ⟨b, hA, hb b (by rw [hA]; rfl), hr⟩

set_option maxRecDepth 100000 in
set_option maxHeartbeats 2000000 in
/-- slices.Values's closure, for every loop body that keeps what lay below n₀. -/
theorem values1_in (F : Fence) (n : Nat) (h8 : F.fn 96) (hro : F.round = none) (hn : 1 ≤ n) (l Bs n₀ : Nat) (A : Option Addr) (cap : Nat) (zs : List EvV) (hreach : zs.length ≤ 65536) (J Jx : List (Fin zs.length) → World → Prop)
    (hJ : ∀ s W W', J s W → Below W.heap.size W W' → J s W')
    (hY : ∀ pre x W, J pre W → pre.length < zs.length → YieldAt F (n - 1) Try.prog l (encs zs x) W fun e W' =>
      (e = .returned (.bool true) ∧ J (pre ++ [x]) W' ∧ Below n₀ W W') ∨ (e = .returned (.bool false) ∧ Jx (pre ++ [x]) W'))
    (W : World) (hn₀ : n₀ ≤ W.heap.size) (hBs : W.cell? ⟨Bs, 0, none⟩ = some (.slice A zs.length cap)) (hc : EvsIn n₀ W A zs) (h0 : J [] W) :
    CallsIn F n Try.prog 96 #[.func (.yield l) #[] #[], .pointer (some ⟨Bs, 0, none⟩)] W fun e W' => (∃ v, e = .returned v) ∧
      ((∃ ys, ys = ItS.upto zs.length zs.length ∧ J ys W') ∨ (∃ pre, (∃ k, k ≤ zs.length ∧ pre = ItS.upto zs.length k) ∧ Jx pre W')) := by
  refine callsIn_of_wp Try.func96 rfl h8 ?_ hro
  simp only [Try.ntmps96, List.size_toArray, List.length_cons, List.length_nil, Nat.reduceAdd, Nat.reduceSub, Array.replicate_succ, Array.replicate_zero, List.push_toArray, List.append_toArray, List.nil_append, List.cons_append]
  have hc' := hide hc
  have hY' := hide hY
  have hJ' := hide hJ
  clear hc hY hJ
  gi_wp2
  gi_loopw [7] (fun i wr => ∃ k : Nat, k ≤ zs.length ∧ i = .int .i64 k ∧ J (ItS.upto zs.length k) wr ∧ Below n₀ W wr)
    (fun i _ => zs.length - (intOf i).toNat)
  case atStart => exact ⟨0, Nat.zero_le _, rfl, by rw [ItS.upto_zero]; exact h0, Below.refl _ _⟩
  case round =>
    obtain ⟨k, hk, rfl, hJs, hnx⟩ := hrel
    by_cases hlt : k < zs.length
    · obtain ⟨b, rfl, hb, hcell⟩ := hc'.out k hlt
      have Hcx := hide (ItS.range_below hnx hb hcell)
      have hsz : n₀ ≤ wr.heap.size := Nat.le_trans hn₀ hnx.size
      have HZ := hide (Blk.new wr 66 EvV.zero.cells.toArray)
      have hbY : Below wr.heap.size wr ((wr.alloc (.cells EvV.zero.cells.toArray 66)).setRow wr.heap.size zs[k].cells.toArray) := below_setRow ((Below.refl _ wr).alloc (Nat.le_refl _) _) (Nat.le_refl _) _
      have hkx := HZ.out.setRow zs[k].cells.toArray
      clear hcell
      gi_upto_region 3 with (first | ((with_reducible refine ItS.wpListIn_load_mid ?g1 66 (.tmp 9) ?o1 b (k * 68) ?x1 zs[k].cells ?d1 ?r1 ?u1 ?f1 ?i1 ?_); (case g1 => exact rfl); (case o1 => exact rfl); (case x1 => exact rfl); (case r1 => exact Hcx.out); (case u1 => exact Try.underlying66); (case f1 => exact rfl); (case i1 => exact Ev.size _)) | ((with_reducible refine ItS.wpListIn_store_row ?g2 66 (.tmp 4) (.tmp 10) ?o2 wr.heap.size zs[k].cells.toArray ?x2 ?y2 66 EvV.zero.cells.toArray ?k2 ?s2 ?l2 ?a2 ?_); (case g2 => exact rfl); (case o2 => exact rfl); (case x2 => exact rfl); (case y2 => exact rfl); (case k2 => exact HZ.out); (case s2 => exact Ev.sizeR _); (case l2 => simp [EvV.length]); (case a2 => exact EvV.all _)))
      generalize hWA : World.setRow (World.alloc wr _) _ _ = wa
      have hWA' : (wr.alloc (.cells EvV.zero.cells.toArray 66)).setRow wr.heap.size zs[k].cells.toArray = wa := hWA
      rw [hWA'] at hbY hkx
      clear hWA hWA' HZ Hcx
      have hJa := hJ'.out _ _ _ hJs hbY
      have Hbn := hide (hnx.trans (hbY.mono hsz))
      have Hkx := hide hkx
      obtain ⟨fn, tmps, assign, body, hy, hR⟩ := hY'.out _ ⟨k, hlt⟩ wa hJa (by rw [ItS.upto_length hk]; exact hlt)
      dsimp only [encs] at hy
      clear hbY hkx hJa hJs hnx
      gi_wp2_with ((with_reducible refine ItS.wpListIn_load_mid ?g3 66 (.tmp 4) ?o3 wr.heap.size 0 ?x3 zs[k].cells ?d3 ?r3 ?u3 ?f3 ?i3 ?_); (case g3 => exact rfl); (case o3 => exact rfl); (case x3 => exact rfl); (case r3 => exact zs[k].range Hkx.out); (case u3 => exact Try.underlying66); (case f3 => exact rfl); (case i3 => exact Ev.size _))
      refine hR.mono ?_
      rintro e W3 (⟨rfl, hJ3, hk3⟩ | ⟨rfl, hJx3⟩)
      · gi_wp2
        go_roundw
        case rel => exact ⟨k + 1, by omega, by simp, by rw [ItS.upto_succ hlt]; exact hJ3, Hbn.out.trans hk3⟩
        case measure => simp [intOf]; omega
      · gi_wp2
        refine bodyPost_ret (results_none rfl _ _ _) rfl ?_
        exact ⟨⟨_, rfl⟩, .inr ⟨_, ⟨k + 1, by omega, (ItS.upto_succ hlt).symm⟩, hJx3⟩⟩
    · obtain rfl : k = zs.length := by omega
      gi_wp2
      go_end0
      exact ⟨⟨_, rfl⟩, .inl ⟨_, rfl, hJs⟩⟩

/-- slices.Values(s) hands back a value that goes over the indexes and what stands there: all; or the first k of them. -/
theorem values_stops (F : Fence) (n : Nat) (h8 : F.fn 96) (hro : F.round = none) (hn : 1 ≤ n) (Bs n₀ : Nat) (A : Option Addr) (cap : Nat) (zs : List EvV) (hreach : zs.length ≤ 65536) (w : World) (hBs : Bs < w.heap.size) (hn₀ : n₀ ≤ w.heap.size)
    (hc : w.cell? ⟨Bs, 0, none⟩ = some (.slice A zs.length cap)) (hI : EvsIn n₀ w A zs) :
    SeqStopsK F n Try.prog 96 #[.pointer (some ⟨Bs, 0, none⟩)] (encs zs) (Below n₀) (fun ys => ys = ItS.upto zs.length zs.length)
      (fun pre => ∃ k, k ≤ zs.length ∧ pre = ItS.upto zs.length k) zs.length w := fun l J Jx W hW hJ _ hY h0 => by
  have hc' := (hW.cell (p := ⟨Bs, 0, none⟩) hBs).trans hc
  exact values1_in F n h8 hro hn l Bs n₀ A cap zs hreach J Jx (fun s W W' hs hb => hJ s W W' none hs ⟨hb.os, hb.tape, hb.output, hb.size, fun k hk _ => hb.block k hk⟩ (fun r e => by cases e)) hY W (Nat.le_trans hn₀ hW.size) hc' (hI.below (hW.mono hn₀)) h0


set_option maxHeartbeats 400000 in
theorem values_any (A : Option Addr) (n c : Nat) (w : World) :
    Calls Try.prog 80 #[.slice A n c] w fun e w' => e = .returned (.func (.func 96) #[] #[.pointer (some ⟨w.heap.size, 0, none⟩)]) ∧ w.alloc (.cells #[.slice A n c] 118) = w' := by
  go_enter Try.func80, Try.ntmps80
  go_wp2
  go_ret
  exact ⟨rfl, rfl⟩
section
variable {w : World} {q d : Nat} {X : Dr} {F FD : Nat → Prop} {A : Option Addr} {c : Nat} {bs : List Nat} {Fs : Nat → Nat → Prop} {mb n : Nat} {Ac : Option Addr} {cc : Nat} {Ah : Option Addr} {ch : Nat}
set_option maxHeartbeats 400000 in
theorem coming_any (h : DrvIs w q d X F FD A c bs Fs mb n Ac cc Ah ch) : Calls Try.prog 38 #[.pointer (some ⟨q, 0, none⟩)] w fun e w' => e = .returned (.func (.func 96) #[] #[.pointer (some ⟨w.heap.size, 0, none⟩)]) ∧ w.alloc (.cells #[.slice Ac X.coming.length cc] 118) = w' := by
  obtain ⟨c0, c1, -⟩ := h.cells
  clear h
  go_enter Try.func38, Try.ntmps38
  go_wp2_with (go_at_call 80; refine (values_any _ _ _ _).mono ?_; rintro e w' ⟨rfl, rfl⟩)
  go_ret
  exact ⟨rfl, rfl⟩
set_option maxHeartbeats 400000 in
theorem happened_any (h : DrvIs w q d X F FD A c bs Fs mb n Ac cc Ah ch) : Calls Try.prog 39 #[.pointer (some ⟨q, 0, none⟩)] w fun e w' => e = .returned (.func (.func 96) #[] #[.pointer (some ⟨w.heap.size, 0, none⟩)]) ∧ w.alloc (.cells #[.slice Ah X.happened.length ch] 118) = w' := by
  obtain ⟨c0, c1, c2, -⟩ := h.cells
  clear h
  go_enter Try.func39, Try.ntmps39
  go_wp2_with (go_at_call 80; refine (values_any _ _ _ _).mono ?_; rintro e w' ⟨rfl, rfl⟩)
  go_ret
  exact ⟨rfl, rfl⟩
end
end Go.Proofs.Ytdinbhanekpjoaa.ItV

/-
  Zero events and sectors, built out of nothing; an operation that is wanted, in a list of operations.
-/
namespace Go.Proofs.Ytdinbhanekpjoaa
open Go.RowKit
theorem wpList_wanted {P : Program} {ops : Array Oper} {rest : List Oper} {o : Oper} {a : Act} {w : World} {Q : Exit → Act → World → Prop} (hw : Region.wanted o (yielded ops a.tmps) = true) {v : Value} (hv : (execOp a.eval o).run P w = .ok (.value v) w)
    (h : wpList P ops Q rest (a.put o.dst v) w) : wpList P ops Q (o :: rest) a w := by
  unfold wpList
  rw [if_pos hw]
  left
  unfold Oper.wp
  rw [hv]
  exact h
theorem wpList_stepG {P : Program} {ops : Array Oper} {rest : List Oper} {o : Oper} {a : Act} {w : World} {Q : Exit → Act → World → Prop} (hw : Region.wanted o (yielded ops a.tmps) = true) {v : Value} (hv : (execOp a.eval o).run P w = .ok (.value v) w)
    (h : ∀ K : Act → Prop, (∀ a, wpList P ops Q rest a w → K a) → K (a.put o.dst v)) : wpList P ops Q (o :: rest) a w :=
  wpList_wanted hw hv (h _ (fun _ h => h))
theorem run_build_ev0 (w : World) : (Instr.build 66 #[]).run Try.prog w = .ok (.agg EvV.zero.cells.toArray) w :=
  run_build w _ _ _ (by kernel_rfl)
theorem run_build_sec0 (w : World) : (Instr.build 34 #[]).run Try.prog w = .ok (.agg Sec.zero.cs.toArray) w :=
  run_build w _ _ _ (by kernel_rfl)
theorem run_field_ev0 (w : World) : (Instr.field 66 (.agg EvV.zero.cells.toArray) 4).run Try.prog w = .ok (.agg Sec.zero.cs.toArray) w := by
  kernel_rfl
theorem exec_build_ev0 {w : World} {a : Act} {o : Oper} (ho : o.op = .build 66 #[]) : (execOp a.eval o).run Try.prog w = .ok (.value (.agg EvV.zero.cells.toArray)) w := by
  unfold execOp
  simp only [ho, List.map_toArray, List.map_nil, Sem.run_bind, run_build_ev0 w, Result.andThen_ok, Sem.run_pure]
theorem exec_build_sec0 {w : World} {a : Act} {o : Oper} (ho : o.op = .build 34 #[]) : (execOp a.eval o).run Try.prog w = .ok (.value (.agg Sec.zero.cs.toArray)) w := by
  unfold execOp
  simp only [ho, List.map_toArray, List.map_nil, Sem.run_bind, run_build_sec0 w, Result.andThen_ok, Sem.run_pure]
theorem exec_field_ev0 {w : World} {a : Act} {o : Oper} {x : Operand} (ho : o.op = .field 66 x 4) (hx : a.eval x = .agg EvV.zero.cells.toArray) : (execOp a.eval o).run Try.prog w = .ok (.value (.agg Sec.zero.cs.toArray)) w := by
  unfold execOp
  simp only [ho, hx, Sem.run_bind, run_field_ev0 w, Result.andThen_ok, Sem.run_pure]
theorem exec_load_row {P : Program} {w : World} {a : Act} {o : Oper} (ty : TypeId) (x : Operand) (ho : o.op = .load ty x) (b off : Nat) (hx : a.eval x = .pointer (some ⟨b, off, none⟩)) (cs : List Value) (d : TypeDesc)
    (hr : w.rangeAt b off cs) (hu : P.underlying ty = some d) (hd : d.isRow = true) (hi : (P.info? ty).map (·.size) = some cs.length) : (execOp a.eval o).run P w = .ok (.value (.agg cs.toArray)) w := by
  simp only [execOp, ho, hx, Sem.run_bind, run_loadAt_mid w b off ty cs d hr hu hd hi, Result.andThen_ok, Sem.run_pure]
end Go.Proofs.Ytdinbhanekpjoaa

/-
  The walk of PlanCalm: it answers true, and nothing that was there has turned.
-/
namespace Go.Proofs.Ytdinbhanekpjoaa
open Go.RowKit Go.Shelf

attribute [local go_sem] Oper.semAt_some

/-- The activation between two rounds. -/
def calmFrame (rb q gb : Nat) (A1 : Option Addr) (m cap1 k : Nat) (Ds : List Nat) (v : Nat → Value) : Act := { tmps := #[v 0, v 1, v 2, v 3, v 4, v 5, v 6, v 7, .pointer (some ⟨rb, 0, none⟩), .pointer (some ⟨q, 0, none⟩), .pointer (some ⟨gb, 0, none⟩), v 11, v 12, v 13, v 14, v 15, v 16, v 17, v 18, v 19, v 20, v 21, v 22, v 23, v 24, v 25, v 26, v 27, v 28, v 29, v 30, v 31, v 32, .slice A1 m cap1, .int .i64 (m : Int), .int .i64 (k : Int), v 36, v 37, v 38, v 39, v 40, v 41, v 42, v 43, v 44, v 45, v 46, v 47, v 48, v 49, v 50, v 51, v 52, v 53, v 54, v 55, v 56, v 57, v 58, v 59, v 60, v 61, v 62, v 63, v 64, v 65, v 66, v 67, v 68, v 69, v 70, v 71, v 72, v 73, v 74, v 75, v 76, v 77, v 78, v 79, v 80, v 81], defers := Ds.map ItS.mark }
/-- What a round keeps. -/
def CalmInv (w : World) (rb gb q d : Nat) (X : Dr) (Ds : List Nat) (wr : World) : Prop :=
  Rel8 w (fun b => b = rb ∨ b ∈ Ds) gb q d X wr ∧ Blk wr rb 4 #[.bool false] ∧ (∀ D ∈ Ds, wr.heap[D]? = some (.deferred (some [])) ∧ rb < D) ∧ Ds.Nodup
set_option maxRecDepth 100000 in
set_option maxHeartbeats 4000000 in
theorem calm8_walk (n : Nat) (size op : Int) (A1 : Option Addr) (cap1 : Nat) (ps : List OpP) (w : World) (h1 : CameOps8 w A1 ps) (hz1 : 1 ≤ n) (hz2 : n ≤ 40) (hs1 : 1 ≤ size) (hs2 : size ≤ 64) (ho1 : 1 ≤ op) (ho2 : op ≤ 64) (hn1 : ps.length ≤ 60) :
    Calls Try.prog 10 #[.int .i64 (n : Int), .int .i64 size, .int .i64 op, .slice A1 ps.length cap1] w fun e w' => e = .returned (.bool true) ∧ Below w.heap.size w w' := by
  have h1' := hide h1
  have Hst := hide (fun w => started_yes n size op w hz1 hz2 hs1 hs2 ho1 ho2)
  have Hfits := hide (fun p (hp : p ∈ ps) => (h1.1 p hp).2.2)
  have Hsz := hide hs2
  have d3 : decide (60 < ps.length) = false := decide_eq_false (by omega)
  have d4 : decide ((60 : Int) < (ps.length : Int)) = false := decide_eq_false (by omega)
  have Hn1 := hide hn1
  have Hz := hide (And.intro hz1 hz2)
  clear h1 hs1 hs2 ho1 ho2 hn1 hz1 hz2
  refine ItS.calls_of_wp_marks Try.func10 rfl ?_
  simp only [Try.ntmps10, List.size_toArray, List.length_cons, List.length_nil, Nat.reduceAdd, Nat.reduceSub, Array.replicate_succ, Array.replicate_zero, List.push_toArray, List.append_toArray, List.nil_append, List.cons_append]
  go_upto_region 1 with (fail)
  have hb0 : Below w.heap.size w (w.alloc (.cells #[.bool false] 4)) := (Below.refl _ w).alloc (Nat.le_refl _) _
  have kb := Blk.new w 4 #[.bool false]
  generalize w.alloc _ = w0 at hb0 kb ⊢
  have Hb0 := hide hb0
  have Kb := hide kb
  clear hb0 kb
  go_wp2_with fail
  refine (anchor8_any _).mono ?_
  rintro e w1 ⟨rfl, hb1⟩
  have Hb1 := hide (Hb0.out.trans (hb1.mono Hb0.out.size))
  have kb1 : Blk w1 w.heap.size 4 _ := (hb1.block _ Kb.out.lt).trans Kb.out
  have Kb1 := hide kb1
  clear hb1 kb1 Kb Hb0
  go_wp2_with fail
  refine (Hst.out _).mono ?_
  rintro e w2 ⟨q, d, A', c', rfl, hbeg⟩
  have kb2 : Blk w2 w.heap.size 4 _ := (hbeg.choose_spec.choose_spec.choose_spec.2.1.block _ Kb1.out.lt).trans Kb1.out
  have Kb2 := hide kb2
  have Hbeg := hide hbeg
  clear hbeg Hst kb2
  unfold agg8
  go_upto_region 6 with (fail)
  have hrel0 := Rel8.start2 (w := w) Hb1.out Hbeg.out
  have kbI := Kb2.out.alloc (.cells #[.slice A' (DV.Dr.made n size op).D.zs.length c', .int .i64 (DV.Dr.made n size op).D.size, .int .i64 (DV.Dr.made n size op).D.op, .int .i64 ((DV.Dr.made n size op).D.n : Int), .bool (DV.Dr.made n size op).D.down, .slice none (DV.Dr.made n size op).coming.length 0, .slice none (DV.Dr.made n size op).happened.length 0] 62)
  have hrbw : w.heap.size < w1.heap.size := Kb1.out.lt
  have Hgd0 := hide (Dr.Good.made n size op)
  have Hcalm0 := hide (Dr.Calm.made n size op)
  have Hlen0 : Hid ((DV.Dr.made n size op).D.zs.length = n) := hide (by simp [DV.Dr.made, Dv.made])
  have Hsz0 : Hid ((DV.Dr.made n size op).D.size ≤ 64) := hide Hsz.out
  generalize DV.Dr.made n size op = X0 at hrel0 kbI Hgd0 Hcalm0 Hlen0 Hsz0 ⊢
  have hrel1 := hrel0.sub (E' := fun b => b = w.heap.size ∨ b ∈ ([] : List Nat)) (fun k hk => by
    rcases hk with rfl | hk
    · exact ⟨Nat.le_refl _, hrbw⟩
    · simp at hk)
  clear Hbeg Hb1 Hsz Kb1 Kb2 hrel0 hrbw
  generalize w2.alloc _ = wI at hrel1 kbI ⊢
  generalize w2.heap.size = gb at hrel1 ⊢
  obtain ⟨rb, hrb⟩ : ∃ b, b = w.heap.size := ⟨_, rfl⟩
  rw [← hrb] at hrel1 kbI ⊢
  have Hrb := hide hrb
  have Hinv0 := hide (show CalmInv w rb gb q d (X0.playCTo ps 0) [] wI from ⟨hrel1, kbI, fun D hD => absurd hD (by simp), List.nodup_nil⟩)
  clear hrb hrel1 kbI
  go_wp2_with fail
  rename_i hK
  refine wp_loop (fun a wr => ∃ (k : Nat) (Ds : List Nat), a = calmFrame rb q gb A1 ps.length cap1 k Ds (fun i => a.tmps.getD i undef) ∧ k ≤ ps.length ∧ CalmInv w rb gb q d (X0.playCTo ps k) Ds wr)
    (fun a _ => ps.length - (intOf (a.tmps.getD 35 undef)).toNat) ⟨0, [], rfl, Nat.zero_le _, Hinv0.out⟩ ?_
  rintro a wr ⟨k, Ds, ha, hk, hI⟩
  generalize (fun i => a.tmps.getD i undef) = v at ha
  subst ha
  unfold calmFrame
  clear Hinv0
  obtain ⟨hR, hkb, hDs, hnd⟩ := hI
  have Hkb := hide hkb
  have HDs := hide (And.intro hDs hnd)
  clear hkb hDs hnd
  have HR := hide hR
  obtain ⟨hgk, hlk, hck⟩ := Dr.Calm.playCTo Hgd0.out Hcalm0.out Hfits.out k hk (by have := Hn1.out; omega)
  rw [Nat.zero_add] at hgk
  have Hsucc := hide (fun h : k < ps.length => Dr.playCTo_succ X0 ps k h)
  generalize hXk : X0.playCTo ps k = X at HR Hsucc hgk hlk hck hR
  have HGd := hide hgk
  have HCalm := hide hck
  have Hlen : Hid (X.D.zs.length = n) := hide (hlk.len.trans Hlen0.out)
  have HszX : Hid (X.D.size ≤ 64) := hide (by rw [hlk.size]; exact Hsz0.out)
  clear hgk hlk hR hXk hck
  by_cases hlt : k < ps.length
  · clear hK
    obtain ⟨ab, off, rfl, hab, hck⟩ := (h1'.out.below HR.out.world).2 (by omega)
    have Hck := hide (hck k hlt)
    have HZ := hide (Blk.new wr 68 OpP.zero.cells.toArray)
    have hba : Below wr.heap.size wr ((wr.alloc (.cells OpP.zero.cells.toArray 68)).setRow wr.heap.size ps[k].cells.toArray) := below_setRow ((Below.refl _ wr).alloc (Nat.le_refl _) _) (Nat.le_refl _) _
    have hko := HZ.out.setRow ps[k].cells.toArray
    have hmem : ps[k] ∈ ps := List.getElem_mem hlt
    have Hci := hide (h1'.out.1 _ hmem)
    have Hs1 := hide (Hsucc.out hlt)
    clear hck hmem Hsucc
    go_upto_region 9 with (first | ((with_reducible refine wpList_load_mid ?g1 68 (.tmp 37) ?o1 ab (off + k * 136) ?x1 ps[k].cells ?d1 ?r1 ?u1 ?f1 ?i1 ?_); (case g1 => exact rfl); (case o1 => exact rfl); (case x1 => exact rfl); (case r1 => exact Hck.out); (case u1 => exact Try.underlying68); (case f1 => exact rfl); (case i1 => exact sizeOp8 _)) | ((with_reducible refine wpList_store_row ?g2 68 (.tmp 13) (.tmp 38) ?o2 wr.heap.size ps[k].cells.toArray ?x2 ?y2 68 OpP.zero.cells.toArray ?k2 ?s2 ?l2 ?a2 ?_); (case g2 => exact rfl); (case o2 => exact rfl); (case x2 => exact rfl); (case y2 => exact rfl); (case k2 => exact HZ.out); (case s2 => exact sizeOp8R _); (case l2 => simp [OpP.length]); (case a2 => exact OpP.all _)))
    generalize hWA : World.setRow (World.alloc wr _) _ _ = wa
    have hWA' : (wr.alloc (.cells OpP.zero.cells.toArray 68)).setRow wr.heap.size ps[k].cells.toArray = wa := hWA
    rw [hWA'] at hba hko
    clear hWA hWA' HZ Hck
    have HRa := hide (HR.out.more (E' := fun b => (b = rb ∨ b ∈ Ds) ∨ b = wr.heap.size) (fun b hb => hb.imp id (fun e => ⟨by omega, by have := hko.lt; omega⟩)) hba)
    have Hba := hide hba
    have KO := hide hko
    have Hkba : Hid (Blk wa rb 4 #[.bool false]) := hide ((hba.block _ Hkb.out.lt).trans Hkb.out)
    have Hobr : Hid (rb < wr.heap.size) := hide Hkb.out.lt
    obtain ⟨ob, hob⟩ : ∃ b, b = wr.heap.size := ⟨_, rfl⟩
    have HDsa : Hid ((∀ D ∈ Ds, wa.heap[D]? = some (.deferred (some [])) ∧ rb < D ∧ D < ob) ∧ Ds.Nodup) := hide ⟨fun D hD => by
      have h9 := HDs.out.1 D hD
      have hlt9 : D < wr.heap.size := (Array.getElem?_eq_some_iff.1 h9.1).1
      exact ⟨(hba.block D hlt9).trans h9.1, h9.2, by omega⟩, HDs.out.2⟩
    rw [← hob] at HRa KO Hobr ⊢
    clear hba hko hob HDs Hkb
    obtain ⟨o0, o1, o2, -⟩ := OpP.at_ KO.out
    by_cases h6 : ps[k].o.kind ≤ 6
    · have d6 : decide (6 < ps[k].o.kind) = false := decide_eq_false (by omega)
      have H6 := hide h6
      clear h6
      go_upto_region 10 with (fail)
      clear o0 o1 o2 d6
      obtain ⟨A', c', Ac', cc', Ah', ch', hgb, hstep⟩ := HRa.out.step HGd.out (by have := Hn1.out; omega) (by have := Hlen.out; have := Hz.out.2; omega) HszX.out ps[k] Hci.out.2.2 Hci.out.1 Hci.out.2.1
      have HS := hide (hstep wa (Below.refl _ wa))
      have Hgb := hide hgb
      clear hstep hgb
      obtain ⟨a0, a1, a2, a3, a4, a5, a6, -⟩ := Hgb.out.seven
      unfold agg8 at HS
      go_wp2_with ((with_reducible refine wpList_load_mid ?g2 68 (.tmp 13) ?o2 ob (0) ?x2 ps[k].cells ?d2 ?r2 ?u2 ?f2 ?i2 ?_); (case g2 => exact rfl); (case o2 => exact rfl); (case x2 => exact rfl); (case r2 => exact range_op8 _ KO.out); (case u2 => exact Try.underlying68); (case f2 => exact rfl); (case i2 => exact sizeOp8 _))
      refine HS.out.mono ?_
      rintro e w3 ⟨A2, c2, Ac2, cc2, Ah2, ch2, rfl, hg3, hrel3, hm3⟩
      clear a0 a1 a2 a3 a4 a5 a6 HS
      have HC' := hide (HCalm.out.play ps[k] H6.out)
      have Hs2 : Hid (X0.playCTo ps (k + 1) = X.play ps[k]) := hide (by rw [Hs1.out, Dr.playC, if_pos H6.out])
      generalize hX' : X.play ps[k] = X' at hrel3 hm3 HC' Hs2 ⊢
      have Hr3 := hide (fun W hW => hrel3.cast (w1 := W) hW)
      have Hm3 := hide (fun W hW => Mods.castW hm3 (w1 := W) hW)
      obtain ⟨a0, a1, a2, a3, a4, a5, a6, f0, f1, f2, f3, f4, f5, f6⟩ := hg3.seven
      clear hg3 hrel3 hm3 hX'
      go_upto_region 11 with (fail)
      clear a0 a1 a2 a3 a4 a5 a6 f0 f1 f2 f3 f4 f5 f6
      generalize hW : World.setCell (World.setCell (World.setCell (World.setCell (World.setCell (World.setCell (World.setCell _ _ _) _ _) _ _) _ _) _ _) _ _) _ _ = w6
      have HR6 := hide (Hr3.out w6 hW)
      have HM6 := hide (Hm3.out w6 hW)
      clear hW Hr3 Hm3 Hgb
      have KO6 : Hid (Blk w6 ob 68 ps[k].cells.toArray) := hide (KO.out.mods HM6.out (fun h => h.1 (.inr rfl)))
      have Kb6 : Hid (Blk w6 rb 4 #[.bool false]) := hide (Hkba.out.mods HM6.out (fun h => h.1 (.inl (.inl rfl))))
      have HDs6 : Hid (∀ D ∈ Ds, w6.heap[D]? = some (.deferred (some [])) ∧ rb < D) := hide (fun D hD => by
        have h9 := HDsa.out.1 D hD
        exact ⟨(HM6.out.block D (Array.getElem?_eq_some_iff.1 h9.1).1 (fun h => h.1 (.inl (.inr hD)))).trans h9.1, h9.2.1⟩)
      have hob6 : ob < w6.heap.size := KO6.out.lt
      have Hob6 := hide hob6
      have Hw6 := hide HR6.out.world
      clear hob6 HM6 KO Hkba HRa
      obtain ⟨F6, FD6, A6, c6, bs6, Fs6, mb6, n6, Ac6, cc6, Ah6, ch6, hd6⟩ := HR6.out.drv
      have hhap := ItV.happened_any hd6
      rw [HC'.out.happened] at hhap
      have Hhap := hide hhap
      clear hhap hd6
      go_wp2_with fail
      refine Hhap.out.mono ?_
      rintro e w7 ⟨rfl, hw7⟩
      have k7 := Blk.new w6 118 #[.slice Ah6 ([] : List EvV).length ch6]
      have hb7 : Below w6.heap.size w6 (w6.alloc (.cells #[.slice Ah6 ([] : List EvV).length ch6] 118)) := (Below.refl _ w6).alloc (Nat.le_refl _) _
      rw [hw7] at k7 hb7
      have K7 := hide k7
      have Hb7 := hide hb7
      have HR7 := hide (HR6.out.below hb7)
      clear hw7 k7 hb7 Hhap
      go_wp2_with fail
      rename_i hK2
      refine ItS.wp_rangeFunc_own rfl (fun _ _ => rfl) (encs := ItV.encs []) (n₀ := w6.heap.size) (ItV.values_stops Fence.wide 8 trivial rfl (by omega) w6.heap.size w6.heap.size Ah6 ch6 [] (by simp) w7 K7.out.lt Hb7.out.size (K7.out.cell 0) (fun j hj => absurd hj (by simp))) Hb7.out.size (fun _ => rfl)
        (fun _ W => Below w7.heap.size w7 W) (fun _ _ _ => False) (ownFrom_below (Nat.le_refl _) (Nat.le_refl _)) (fun _ => ItS.ownFrom_pure _ _) (Below.refl _ _) (fun _ => { tmps := #[], defers := [] }) (fun _ x => x.elim0) (fun _ _ x => x.elim0) ?_ (fun _ _ _ _ _ _ h _ => h.elim)
      rintro D' xs W hD - hbW hdef
      have hlD : D' < W.heap.size := (Array.getElem?_eq_some_iff.1 hdef).1
      have HRW := hide (HR7.out.more (E' := fun b => (b = rb ∨ b ∈ D' :: Ds) ∨ b = ob) (fun b hb => by
        rcases hb with (h | h) | h
        · exact .inl (.inl (.inl h))
        · rcases List.mem_cons.1 h with rfl | h
          · exact .inr ⟨hD, hlD⟩
          · exact .inl (.inl (.inr h))
        · exact .inl (.inr h)) hbW)
      have HbW := hide (Hb7.out.trans (hbW.mono Hb7.out.size))
      have KOW : Hid (Blk W ob 68 ps[k].cells.toArray) := hide ((HbW.out.block _ KO6.out.lt).trans KO6.out)
      have KbW : Hid (Blk W rb 4 #[.bool false]) := hide ((HbW.out.block _ Kb6.out.lt).trans Kb6.out)
      have HDsW : Hid ((∀ D ∈ D' :: Ds, W.heap[D]? = some (.deferred (some [])) ∧ rb < D) ∧ (D' :: Ds).Nodup) := hide ⟨fun D hD2 => by
        rcases List.mem_cons.1 hD2 with rfl | h
        · exact ⟨hdef, by have := Kb6.out.lt; have := Hb7.out.size; omega⟩
        · have h9 := HDs6.out D h
          exact ⟨(HbW.out.block D (Array.getElem?_eq_some_iff.1 h9.1).1).trans h9.1, h9.2⟩, List.nodup_cons.2 ⟨fun hm => by
        have := (Array.getElem?_eq_some_iff.1 (HDs6.out _ hm).1).1; have := Hb7.out.size; omega, HDsa.out.2⟩⟩
      obtain ⟨FW, FDW, AW, cW, bsW, FsW, mbW, nW, AcW, ccW, AhW, chW, hdW⟩ := HRW.out.drv
      have hsp := DV.spoilt_any hdW ps[k].o.zone ps[k].o.off (Hci.out.2.2).zone (Hci.out.2.2).off
      rw [HC'.out.marks] at hsp
      have Hsp : Hid (Calls Try.prog 40 #[.pointer (some ⟨q, 0, none⟩), .int .i64 ps[k].o.zone, .int .i64 ps[k].o.off] W fun e w' => e = .returned (.tuple #[.agg Sec.zero.cs.toArray, .int .i64 0]) ∧ Below W.heap.size W w') := hide hsp
      obtain ⟨-, o1, o2, -⟩ := OpP.at_ KOW.out
      clear hdW hsp hlD hbW hdef hD
      refine hK2 _ _ ?_
      clear hK2
      go_wp2_with fail
      refine Hsp.out.mono ?_
      rintro e w8 ⟨rfl, hb8⟩
      have HZ := hide (Blk.new w8 34 Sec.zero.cs.toArray)
      have hb9 : Below w8.heap.size w8 ((w8.alloc (.cells Sec.zero.cs.toArray 34)).setRow w8.heap.size Sec.zero.cs.toArray) := below_setRow ((Below.refl _ w8).alloc (Nat.le_refl _) _) (Nat.le_refl _) _
      have kt := HZ.out.setRow Sec.zero.cs.toArray
      have Hb8 := hide hb8
      clear o1 o2 hb8 Hsp
      go_upto_region 16 with ((with_reducible refine wpList_store_row ?g3 34 (.tmp 14) (.tmp 61) ?o3 w8.heap.size Sec.zero.cs.toArray ?x3 ?y3 34 Sec.zero.cs.toArray ?k3 ?s3 ?l3 ?a3 ?_); (case g3 => exact rfl); (case o3 => exact rfl); (case x3 => exact rfl); (case y3 => exact rfl); (case k3 => exact HZ.out); (case s3 => exact ZD.sizeRow _); (case l3 => simp [Sec.len]); (case a3 => exact sec_all _))
      generalize hWD : World.setRow (World.alloc w8 _) _ _ = w9
      have hWD' : (w8.alloc (.cells Sec.zero.cs.toArray 34)).setRow w8.heap.size Sec.zero.cs.toArray = w9 := hWD
      rw [hWD'] at hb9 kt
      clear hWD hWD' HZ
      have HR9 := hide (HRW.out.below (Hb8.out.trans (hb9.mono Hb8.out.size)))
      have hB9 := Hb8.out.trans (hb9.mono Hb8.out.size)
      have Rt : Hid (w9.rangeAt w8.heap.size 0 Sec.zero.cs) := hide (ZD.range_blk _ kt)
      have Hinv : Hid (CalmInv w rb gb q d (X0.playCTo ps (k + 1)) (D' :: Ds) w9) := hide (by
        rw [Hs2.out]
        exact ⟨HR9.out.sub (fun b hb => .inl hb), (hB9.block _ KbW.out.lt).trans KbW.out, fun D hD => ⟨(hB9.block D (Array.getElem?_eq_some_iff.1 (HDsW.out.1 D hD).1).1).trans (HDsW.out.1 D hD).1, (HDsW.out.1 D hD).2⟩, HDsW.out.2⟩)
      have qS := eqS Sec.zero
      have hk60 : ps.length ≤ 60 := Hn1.out
      clear hb9 kt hB9 HR9
      refine wp_region_lit ?_
      iterate 8
        first
        | (refine wpList_stepG (by first | rfl | decide) (exec_load_row 34 (.tmp 14) rfl w8.heap.size 0 rfl Sec.zero.cs _ Rt.out Try.underlying34 rfl (ZD.sizeSec _)) (fun K hK => ?_)
           go_simp
           refine hK _ ?_
           clear hK K)
        | (refine wpList_stepG (by first | rfl | decide) (exec_build_ev0 rfl) (fun K hK => ?_)
           go_simp
           refine hK _ ?_
           clear hK K)
        | (refine wpList_stepG (by first | rfl | decide) (exec_field_ev0 (x := .tmp 67) rfl rfl) (fun K hK => ?_)
           go_simp
           refine hK _ ?_
           clear hK K)
        | (apply wpList_stepG (by first | rfl | decide)
           · go_simp
             first | done | rfl
           intro K hK
           go_simp
           refine hK _ ?_
           clear hK K)
      go_wp2_with fail
      exact ⟨⟨k + 1, D' :: Ds, by first | rfl | (simp only [Int.natCast_add]; rfl), by omega, Hinv.out⟩, by simp [intOf]; omega⟩
    · have d6 : decide (6 < ps[k].o.kind) = true := decide_eq_true (by omega)
      have Hrel : Hid (CalmInv w rb gb q d (X0.playCTo ps (k + 1)) Ds wa) := hide (by
        rw [Hs1.out, Dr.playC, if_neg h6]
        exact ⟨HRa.out.sub (fun b hb => .inl hb), Hkba.out, fun D hD => ⟨(HDsa.out.1 D hD).1, (HDsa.out.1 D hD).2.1⟩, HDsa.out.2⟩)
      have hk60 : ps.length ≤ 60 := Hn1.out
      clear h6
      go_wp2_with fail
      exact ⟨⟨k + 1, Ds, by first | rfl | (simp only [Int.natCast_add]; rfl), by omega, Hrel.out⟩, by simp [intOf]; omega⟩
  · obtain rfl : k = ps.length := by omega
    clear Hsucc
    obtain ⟨F9, G9, A'9, c'9, es9, Ac'9, cc'9, Ah'9, ch'9, hT9, hg9, x1, x2, x3, x4, x5, x6, x7, x8⟩ := HR.out
    have HF := hide x4
    have HE := hide x6
    have Hw := hide x7
    obtain ⟨FD9, A9, c9, bs9, Fs9, mb9, n9, Ac9, cc9, Ah9, ch9, hd9⟩ := hT9.drv
    have Hdv := hide (DV.device_any hd9)
    have hdn := DM.down_any hd9.dev
    rw [HCalm.out.down] at hdn
    have hpl := DV.plan_any hd9 EvV.zero HGd.out.srt (by rw [HCalm.out.coming]; simp)
    rw [show (X.plan EvV.zero).2 = 10 from rfl, show (X.plan EvV.zero).1 = X from rfl] at hpl
    have Hdn := hide hdn
    have Hpl := hide hpl
    clear hdn hpl hd9 hT9 hg9 x1 x2 x3 x4 x5 x6 x7 x8
    go_wp2_with fail
    refine Hdv.out.mono ?_
    rintro e w' ⟨rfl, rfl⟩
    go_wp2_with fail
    refine Hdn.out.mono ?_
    rintro e w' ⟨rfl, rfl⟩
    go_wp2_with fail
    refine Hpl.out.mono ?_
    rintro e w2 ⟨rfl, hdid⟩
    have hm2 := hdid.mods
    have Hk2 : Hid (Blk w2 rb 4 #[.bool false]) := hide (Hkb.out.mods hm2 (fun h => (HE.out rb (.inl rfl)).1 h))
    have Hd2 : Hid ((∀ D ∈ Ds, w2.heap[D]? = some (.deferred (some [])) ∧ rb < D) ∧ Ds.Nodup) := hide ⟨fun D hD => by
      have h9 := HDs.out.1 D hD
      exact ⟨(hm2.block D (Array.getElem?_eq_some_iff.1 h9.1).1 (fun h => (HE.out D (.inr hD)).1 h)).trans h9.1, h9.2⟩, HDs.out.2⟩
    have Hw2 := hide (Hw.out.trans (hm2.below Hw.out.size (fun k hk => HF.out k hk)))
    have c0 := Hk2.out.cell 0
    have f0 := Hk2.out.frozen 0
    clear hm2 hdid
    go_wp2_with fail
    refine ItS.leaves_marks Ds _ (fun D hD => ?_) Hd2.out.2 (fun w' hw' => ?_)
    · have h9 := Hd2.out.1 D hD
      exact (Below.heap_setCell w2 ⟨rb, 0, none⟩ _ D (by have := h9.2; dsimp only; omega)).trans h9.1
    · have hn : rb ∉ Ds := fun hD => by have := (Hd2.out.1 _ hD).2; omega
      have hc : w'.cell? ⟨rb, 0, none⟩ = some (.bool true) := by
        have hk : w'.heap[rb]? = (w2.setCell ⟨rb, 0, none⟩ (.bool true)).heap[rb]? := hw'.2.2.2.2 _ hn
        have := (Hk2.out.set_ 0 (.bool true)).of_heap hk rfl
        simpa using this.cell 0
      refine ⟨.bool true, by simp [results, Try.f10, go_sem, hc], rfl, ?_⟩
      have := Hrb.out
      exact (Hw2.out.setCell (p := ⟨rb, 0, none⟩) (by dsimp only; omega) _).trans (ItS.below_marks hw' (fun D hD => by have := (Hd2.out.1 D hD).2; omega))
end Go.Proofs.Ytdinbhanekpjoaa

/-
  PlanCalm answers true for every number of zones, size, bound and slice of steps, and each argument reads behind the call as it read before: no condition.
-/
namespace Go.Proofs.Ytdinbhanekpjoaa.planCalm
open Go.ChangeShapes Go.WideShapes Go.ChangeAt Go.RowKit

set_option maxRecDepth 100000 in
set_option maxHeartbeats 2000000 in
theorem any (zones size op : Int) (A1 : Option Addr) (cap1 : Nat) (ps : List OpP) (w : World) (h1 : CameOps8 w A1 ps) (b1 : ps.length ≤ maxLen) :
    Calls Try.prog 10 #[.int .i64 zones, .int .i64 size, .int .i64 op, .slice A1 ps.length cap1] w fun e w' => e = .returned (.bool true) ∧ Below w.heap.size w w' := by
  unfold maxLen at b1
  by_cases hr : 1 ≤ zones ∧ zones ≤ 40 ∧ 1 ≤ size ∧ size ≤ 64 ∧ 1 ≤ op ∧ op ≤ 64
  · obtain ⟨r1, r2, r3, r4, r5, r6⟩ := hr
    obtain ⟨n, rfl⟩ := Int.eq_ofNat_of_zero_le (show 0 ≤ zones by omega)
    by_cases hlen : ps.length ≤ 60
    · exact calm8_walk n size op A1 cap1 ps w h1 (by omega) (by omega) r3 r4 r5 r6 hlen
    · have d3 : decide (60 < ps.length) = true := decide_eq_true (by omega)
      have d4 : decide ((60 : Int) < (ps.length : Int)) = true := decide_eq_true (by omega)
      have Hs := hide (fun w => started_yes n size op w (by omega) (by omega) r3 r4 r5 r6)
      clear h1 r1 r2 r3 r4 r5 r6 hlen b1
      go_enter Try.func10, Try.ntmps10
      go_upto_region 1 with (fail)
      have hb0 : Below w.heap.size w (w.alloc (.cells #[.bool false] 4)) := (Below.refl _ w).alloc (Nat.le_refl _) _
      have kb := Blk.new w 4 #[.bool false]
      generalize w.alloc _ = w0 at hb0 kb ⊢
      go_wp2_with fail
      refine (anchor8_any _).mono ?_
      rintro e w1 ⟨rfl, hb1⟩
      have kb1 : Blk w1 w.heap.size 4 _ := (hb1.block _ kb.lt).trans kb
      go_wp2_with fail
      refine (Hs.out _).mono ?_
      rintro e w2 ⟨q, d, A', c', rfl, F, G, es', hT, hb2, hF, hG⟩
      clear hT hF hG
      unfold agg8
      have kb2 : Blk w2 w.heap.size 4 _ := (hb2.block _ kb1.lt).trans kb1
      have c4 := kb2.cell 0
      have f4 := kb2.frozen 0
      have l4 := kb2.lt
      clear kb kb1
      go_wp2_with fail
      refine bodyPost_ret (v := .bool true) (by simp [results, Try.f10, go_sem, c4, l4]) rfl ⟨rfl, ?_⟩
      exact ((((hb0.trans (hb1.mono hb0.size)).trans (hb2.mono (Nat.le_trans hb0.size hb1.size))).setCell (p := ⟨w.heap.size, 0, none⟩) (Nat.le_refl _) _).alloc (by have := hb0.size; have := hb1.size; have := hb2.size; simp; try omega) _)
  · have Hs := hide (fun w => started_no zones size op w hr)
    clear h1 hr b1
    go_enter Try.func10, Try.ntmps10
    go_upto_region 1 with (fail)
    have hb0 : Below w.heap.size w (w.alloc (.cells #[.bool false] 4)) := (Below.refl _ w).alloc (Nat.le_refl _) _
    have kb := Blk.new w 4 #[.bool false]
    generalize w.alloc _ = w0 at hb0 kb ⊢
    go_wp2_with fail
    refine (anchor8_any _).mono ?_
    rintro e w1 ⟨rfl, hb1⟩
    have kb1 : Blk w1 w.heap.size 4 _ := (hb1.block _ kb.lt).trans kb
    go_wp2_with fail
    refine (Hs.out _).mono ?_
    rintro e w2 ⟨rfl, hb2⟩
    have kb2 : Blk w2 w.heap.size 4 _ := (hb2.block _ kb1.lt).trans kb1
    have c4 := kb2.cell 0
    have f4 := kb2.frozen 0
    have l4 := kb2.lt
    clear kb kb1
    go_wp2_with fail
    refine bodyPost_ret (v := .bool true) (by simp [results, Try.f10, go_sem, c4, l4]) rfl ⟨rfl, ?_⟩
    exact ((((hb0.trans (hb1.mono hb0.size)).trans (hb2.mono (Nat.le_trans hb0.size hb1.size))).setCell (p := ⟨w.heap.size, 0, none⟩) (Nat.le_refl _) _).alloc (by have := hb0.size; have := hb1.size; have := hb2.size; simp; try omega) _)

theorem own : ownKnob Try.prog.godebug = none := by kernel_rfl
theorem laidOut : laidOutB Try.prog = true := by kernel_rfl

set_option maxRecDepth 100000 in
theorem lifted (os : Os) (started : os.Started) (H : Type) (enc : TypeId × Value → H) :
    ReturnsInHanded {} Try.checked os 10 .any (Rows.planCalmSpec.pre6 enc Try.prog Try.f10 Rows.planCalmRow.domain false) (Rows.planCalmSpec.post enc Try.prog Try.f10 false true false false) := by
  refine returnsInHanded_of_change (C := Try.checked) own started (by kernel_rfl) Try.func10
    (ChangeSpec.witness6 (enc := enc) (C := Try.checked) false ⟨#[], #[.int .i64 0, .int .i64 0, .int .i64 0, .slice none 0 0], []⟩ 8 (by kernel_rfl) (by kernel_rfl) (by kernel_rfl) (by kernel_rfl)) ?_
  intro W base args ds gs before hval0 hW hcnd _
  have hval : ∀ (j : Nat) t v, Try.f10.params[j]? = some t → args[j]? = some v → Value.okWide Try.prog W .any base t v := hval0
  have hW' := hW
  obtain ⟨p, q, hA0, hV, rfl, hfz, hnd⟩ := hW
  have hA : DataW.TrodAll enc Try.prog W 0 (fun _ => true) true Try.f10.params.toList args.toList ds p := hA0
  rw [Try.params10] at hA hval
  obtain ⟨v0, v1, v2, v3, d0, d1, d2, d3, p0, p1, p2, p3, rfl, rfl, rfl, h0, h1, h2, h3⟩ := trodAll_four hA
  obtain ⟨rfl, rfl⟩ := trodVars_none hV
  obtain ⟨zones, rfl, rfl, rfl, wa⟩ := open_int Try.underlying3 (hval 0 3 v0 rfl rfl) h0
  obtain ⟨size, rfl, rfl, rfl, wb⟩ := open_int Try.underlying3 (hval 1 3 v1 rfl rfl) h1
  obtain ⟨op, rfl, rfl, rfl, wc⟩ := open_int Try.underlying3 (hval 2 3 v2 rfl rfl) h2
  obtain ⟨a1, len1, cap1, rfl⟩ := okWide_slice Try.underlying58 (hval 3 58 v3 rfl rfl)
  clear hA0 hval0
  have hlt1 : ∀ x ∈ p3, x.block < W.heap.size := fun x hx => hW'.lt x (by simp [hx])
  obtain ⟨hm1, ps1, rfl, hc1⟩ := ops8_came h3 rfl
  refine (any zones size op a1 cap1 ps1 W hc1 hm1).mono fun e W' ⟨he, hb⟩ => ?_
  subst he
  refine ⟨_, rfl, _, _, _, [], [] ++ [] ++ [] ++ p3, [], hW', trodAll_mk1 (shut_bool Try.underlying4 true), ?_, rfl, hb.frame _, fun h => by cases h⟩
  exact trodAll_mk4 (shut_int Try.underlying3 wa) (shut_int Try.underlying3 wb) (shut_int Try.underlying3 wc) (Below.trod laidOut (by kernel_rfl) (of_decide_eq_true (by kernel_rfl)) h3 hb hlt1)

theorem proved : Rows.PlanCalmSaid :=
  OpenClaim.holds_of_wide 10 Try.f10 rfl rfl rfl rfl rfl rfl rfl ⟨rfl, rfl, rfl, rfl, rfl⟩ rfl rfl rfl rfl rfl (by kernel_rfl) Try.func10 (by kernel_rfl)
    (of_decide_eq_true (by kernel_rfl)) (by unfold Func.isWrapper; first | (rw [if_pos (by decide +kernel)]; kernel_rfl) | (rw [if_neg (by decide +kernel)]; exact ⟨rfl, rfl⟩))
    (fun os started H enc _ => lifted os started H enc)
end Go.Proofs.Ytdinbhanekpjoaa.planCalm
