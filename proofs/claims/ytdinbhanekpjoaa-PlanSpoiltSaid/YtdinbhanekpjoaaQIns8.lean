/-
  slices.Insert at one event: it hands back a row with the event at its place.
-/
import Derived.Test.YtdinbhanekpjoaaQD
import Derived.Lib.Overlaps
import Derived.Lib.AppendZerosOnto
import Derived.Lib.AppendZeros
import Derived.Laws.CopyRow
namespace Go.Proofs.Ytdinbhanekpjoaa
open Go.RowKit
namespace Ins
/-- copy at elements of k cells: the target a row of the call's own. -/
theorem run_copy_rowK {P : Program} (w : World) (dT sT ty elem : TypeId) (g o dLen dCap : Nat) (a : Addr) (sLen sCap : Nat) (cur : Array Value) (t : TypeId) (cs : List Value) (k m : Nat)
    (hu : P.underlying dT = some (.slice elem)) (hs : (P.info? elem).map (·.size) = some k) (hg : w.heap[g]? = some (.cells cur t (0, 0))) (hm : Nat.min sLen dLen = m) (hl : cs.length = m * k)
    (hsrc : ∀ j v, cs[j]? = some v → w.cell? (a.add j) = some v) (hfit : o + cs.length ≤ cur.size) (h1 : ∀ v ∈ cs, v.oneCell' = true) :
    (Builtin.copy_ #[dT, sT] ty #[.slice (some ⟨g, o, none⟩) dLen dCap, .slice (some a) sLen sCap]).run P w =
      .ok (goInt m) (w.setRow g (cur.toList.take o ++ cs ++ cur.toList.drop (o + cs.length)).toArray) := by
  have hst := run_storeCells_at P g o t cs 0 cur w hg (by simpa using hfit) h1
  cases hq : P.info? elem with
  | none => simp [hq] at hs
  | some i =>
    have hi : i.size = k := by simpa [hq] using hs
    have hf := run_firstCells_some (P := P) w k m a sLen sCap cs hl hsrc
    simp only [Nat.add_zero] at hst
    simp [Builtin.copy_, run_underlying hu, Builtin.lenOf, sizeOf, typeInfo, hq, hi, hm, hf, hst]
theorem wpList_copy_run8 {P : Program} (w : World) {ops : Array Oper} {rest : List Oper} {o : Oper} {a : Act} {Q : Exit → Act → World → Prop} (hgd : o.guard = none) (d s : Operand) (t t' : TypeId)
    (ho : o.op = .call { callee := .builtin .copy, args := #[d, s], argTypes := #[t, t'] }) (v u : Value) (hd : a.eval d = v) (hs : a.eval s = u) {v' : Value} {w' : World}
    (hr : (Builtin.copy_ #[t, t'] o.type #[v, u]).run P w = .ok v' w') (h : wpList P ops Q rest (a.put o.dst v') w') : wpList P ops Q (o :: rest) a w :=
  wpList_plain hgd fun _ hK => by
    unfold Oper.wp execOp
    simp only [ho, resolve, invoke, builtin, Sem.run_bind, Sem.run_pure, Result.andThen_ok, List.map_toArray, List.map_cons, List.map_nil, hd, hs, hr]
    exact hK _ _ h
section
variable {w : World} {A : Option Addr} {c vb : Nat} {L : List EvV} {e : EvV}
/-- What Insert hands back. -/
def Done (w : World) (A : Option Addr) (L' : List EvV) (n' : Nat) (en : Ending) (w' : World) : Prop :=
  ∃ A' c', en = .returned (.slice A' n' c') ∧ w'.ownsRow 0 66 68 (.slice A' n' c') n' (L'.flatMap EvV.cells) ∧ Mods (fun k => blkOf A = some k) w w' ∧ ∀ g, blkOf A' = some g → blkOf A = some g ∨ w.heap.size ≤ g
set_option maxRecDepth 100000 in
set_option maxHeartbeats 1000000 in
/-- At the end. -/
theorem end_any (hown : w.ownsRow 0 66 68 (.slice A L.length c) L.length (L.flatMap EvV.cells)) (hv : Blk w vb 66 e.cells.toArray) (hl : L.length < 65536) :
    Calls Try.prog 81 #[.slice A L.length c, .int .i64 (L.length : Int), .slice (some ⟨vb, 0, none⟩) 1 1] w (Done w A (L ++ [e]) (L.length + 1)) := by
  obtain ⟨i0, hi, hz0, hz1, hz2⟩ := info_parts Ev.info
  have Hown := hide hown
  have Hl := hide hl
  have Hc := hide (fun j u (hj : e.cells[j]? = some u) => (show w.cell? ((⟨vb, 0, none⟩ : Addr).add j) = some u by rw [Addr.add_lit, Nat.zero_add, hv.cell j]; simpa using hj))
  have hcap := own_cap hown
  have hlc : L.length ≤ c := hcap.1
  have hc63 : c ≤ 9223372036854775807 := by have := hcap.2.1; unfold maxLen at this; omega
  clear hown hv hcap
  have fin : ∀ v' w1, w1.ownsRow 0 66 68 v' (L.length + 1) (L.flatMap EvV.cells ++ e.cells) → w.grownBy w1 (Value.slice A L.length c).ownBlock → (v'.ownBlock = (Value.slice A L.length c).ownBlock ∨ v'.ownBlock = some w.heap.size) → Done w A (L ++ [e]) (L.length + 1) (.returned v') w1 := fun v' w1 h1 h2 h3 => by
    obtain ⟨A', c', rfl⟩ := own_form h1
    refine ⟨A', c', rfl, by rw [evs_snoc]; exact h1, ⟨h2.os, h2.tape, h2.output, h2.size, fun k hk hne => h2.block k hk (fun e => hne (by rw [← own_blkOf A L.length c]; exact e.symm))⟩, fun g hg => ?_⟩
    rw [own_blkOf, own_blkOf, hg] at h3
    rcases h3 with h | h
    · exact .inl h.symm
    · right; simp at h; omega
  have Fin := hide fin
  clear fin
  by_cases hcn : c = L.length
  · go_enter Try.func81, Try.ntmps81
    go_wp2_with (at_builtin; refine wpList_append_own_at _ rfl (.tmp 23) (.tmp 24) 118 rfl 0 66 i0 _ 68 96 Try.underlying118 hi hz0 hz1 hz2 (by simp [EvV.agg, Value.cells, EvV.length]) (by decide) (.slice A L.length c) L.length (L.flatMap EvV.cells) rfl Hown.out ⟨vb, 0, none⟩ 1 1 e.cells rfl (by simp [EvV.length]) Hc.out e.one (by have := Hl.out; unfold maxLen; omega) (by have := Hl.out; omega) (Nat.zero_le _) ?_; intro v' w1 hown' hgrow hnil hat; have Hfin := hide (Fin.out v' w1 hown' hgrow hat); clear hown' hgrow hnil hat)
    go_ret
    exact Hfin.out
  · go_enter Try.func81, Try.ntmps81
    go_wp2_with (at_builtin; refine wpList_append_own_at _ rfl (.tmp 23) (.tmp 24) 118 rfl 0 66 i0 _ 68 96 Try.underlying118 hi hz0 hz1 hz2 (by simp [EvV.agg, Value.cells, EvV.length]) (by decide) (.slice A L.length c) L.length (L.flatMap EvV.cells) rfl Hown.out ⟨vb, 0, none⟩ 1 1 e.cells rfl (by simp [EvV.length]) Hc.out e.one (by have := Hl.out; unfold maxLen; omega) (by have := Hl.out; omega) (Nat.zero_le _) ?_; intro v' w1 hown' hgrow hnil hat; have Hfin := hide (Fin.out v' w1 hown' hgrow hat); clear hown' hgrow hnil hat)
    go_ret
    exact Hfin.out
theorem shape_cells {w : World} {b : Nat} {t : TypeId} {cs : Array Value} (h : w.heap[b]? = some (.cells cs t (0, 0))) : w.shape? b = some (t, cs.size) := by simp [World.shape?, h]
theorem frozen_cells {w : World} {b o : Nat} {t : TypeId} {cs : Array Value} (h : w.heap[b]? = some (.cells cs t (0, 0))) : w.frozen? ⟨b, o, none⟩ = false := by simp [World.frozen?, h]
theorem sizeE (w : World) : (Go.sizeOf 66).run Try.prog w = .ok 68 w := by kernel_rfl
theorem overlaps_no (g off lb cb : Nat) (tB : TypeId) (cur : Array Value) (hg : w.heap[g]? = some (.cells cur tB (0, 0))) (hk : cur.size ≠ 0) (hv : Blk w vb 66 e.cells.toArray) (hne : vb ≠ g) :
    (callFunc 97 #[.slice (some ⟨vb, 0, none⟩) 1 1, .slice (some ⟨g, off, none⟩) lb cb]).run Try.prog w = .ok (.value (.bool false)) w := by
  rw [run_callFunc_extern Try.func97 (by kernel_rfl) (by kernel_rfl) (by kernel_rfl) (e := Extern.SlicesOverlaps.overlaps #[118, 118] #[4]) (by kernel_rfl),
    Lib.run_overlaps_apart w 118 4 66 Try.underlying118 68 sizeE ⟨vb, 0, none⟩ ⟨g, off, none⟩ 1 1 lb cb hne 66 tB e.cells.toArray.size cur.size (shape_cells hv) (shape_cells hg) hk (frozen_cells hv) (frozen_cells hv)]
  rfl
/-- The row's cells behind the two copies. -/
theorem shift_row (cur : List Value) (L : List EvV) (e : EvV) (i : Nat) (hi : i ≤ L.length) (hcur : cur.take (L.length * 68) = L.flatMap EvV.cells) (hroom : (L.length + 1) * 68 ≤ cur.length) (r1 r2 : List Value)
    (h1 : r1 = cur.take ((i + 1) * 68) ++ (L.drop i).flatMap EvV.cells ++ cur.drop ((i + 1) * 68 + ((L.drop i).flatMap EvV.cells).length)) (h2 : r2 = r1.take (i * 68) ++ e.cells ++ r1.drop (i * 68 + e.cells.length)) :
    r2.length = cur.length ∧ r2.take ((L.length + 1) * 68) = (L.take i ++ e :: L.drop i).flatMap EvV.cells := by
  have hd : ((L.drop i).flatMap EvV.cells).length = (L.length - i) * 68 := by rw [evs_length, List.length_drop]
  have ht : ((L.take i).flatMap EvV.cells).length = i * 68 := by rw [evs_length, List.length_take]; congr 1; omega
  have he := e.length
  have hsum : (i + 1) * 68 + (L.length - i) * 68 = (L.length + 1) * 68 := by rw [← Nat.add_mul]; congr 1; omega
  have hr1 : r1.take (i * 68) = (L.take i).flatMap EvV.cells := by
    rw [h1, List.append_assoc, List.take_append_of_le_length (by rw [List.length_take]; omega), List.take_take, show min (i * 68) ((i + 1) * 68) = i * 68 by omega, evs_take, ← hcur, List.take_take, show min (i * 68) (L.length * 68) = i * 68 by have := Nat.mul_le_mul_right 68 hi; omega]
  have hl1 : r1.length = cur.length := by
    rw [h1]; simp only [List.length_append, List.length_take, List.length_drop, hd]; omega
  have hr1d : r1.drop ((i + 1) * 68) = (L.drop i).flatMap EvV.cells ++ cur.drop ((L.length + 1) * 68) := by
    rw [h1, List.append_assoc, List.drop_append_of_le_length (by rw [List.length_take]; omega), List.drop_of_length_le (by rw [List.length_take]; omega), List.nil_append, hd, hsum]
  have hr2 : r2 = (L.take i).flatMap EvV.cells ++ e.cells ++ ((L.drop i).flatMap EvV.cells ++ cur.drop ((L.length + 1) * 68)) := by
    rw [h2, hr1, he, show i * 68 + 68 = (i + 1) * 68 by omega, hr1d]
  refine ⟨?_, ?_⟩
  · rw [hr2]; simp only [List.length_append, List.length_drop, ht, hd, he]; omega
  · rw [hr2, ← List.append_assoc, List.take_append_of_le_length (by simp only [List.length_append, ht, hd, he]; omega), List.take_of_length_le (by simp only [List.length_append, ht, hd, he]; omega)]
    simp
set_option maxRecDepth 100000 in
set_option maxHeartbeats 2000000 in
/-- In place: there is room. -/
theorem shift_any (i : Nat) (hi : i < L.length) (hown : w.ownsRow 0 66 68 (.slice A L.length c) L.length (L.flatMap EvV.cells)) (hroom : L.length + 1 ≤ c) (hv : Blk w vb 66 e.cells.toArray) (hvA : blkOf A ≠ some vb) (hl : L.length < 65536) :
    Calls Try.prog 81 #[.slice A L.length c, .int .i64 (i : Int), .slice (some ⟨vb, 0, none⟩) 1 1] w (Done w A (L.take i ++ e :: L.drop i) (L.length + 1)) := by
  have hcap := own_cap hown
  have hc63 : c ≤ 9223372036854775807 := by have := hcap.2.1; unfold maxLen at this; omega
  have hcm := hcap.2.1
  rcases hown.2 with ⟨h', h0⟩ | ⟨g, cap, cur, h', _, hg, hc, _, hsz, ht⟩
  · omega
  simp only [Value.slice.injEq, true_and] at h'
  obtain ⟨rfl, rfl⟩ := h'
  have hne : vb ≠ g := fun e => hvA (by rw [e]; rfl)
  have hdl : ((L.drop i).flatMap EvV.cells).length = (L.length - i) * 68 := by rw [evs_length, List.length_drop]
  have hsz2 : (L.length + 1) * 68 ≤ cur.size := by rw [hsz]; exact Nat.mul_le_mul_right 68 hroom
  have hcells : ∀ j u, (L.flatMap EvV.cells)[j]? = some u → w.cell? ⟨g, j, none⟩ = some u := fun j u hj => by
    have := hown.cells (g := g) rfl j u hj
    rwa [Addr.add_lit, Nat.zero_add] at this
  -- the first copy
  have hcp1 : ∀ (W : World), W.heap[g]? = some (.cells cur 66 (0, 0)) → ∀ ty dc sc, (Builtin.copy_ #[118, 118] ty #[.slice (some ⟨g, (i + 1) * 68, none⟩) (L.length - i) dc, .slice (some ⟨g, i * 68, none⟩) (L.length + 1 - i) sc]).run Try.prog W = .ok (goInt ((L.length - i : Nat) : Int)) (W.setRow g (cur.toList.take ((i + 1) * 68) ++ (L.drop i).flatMap EvV.cells ++ cur.toList.drop ((i + 1) * 68 + ((L.drop i).flatMap EvV.cells).length)).toArray) := fun W hW ty dc sc =>
    run_copy_rowK W 118 118 ty 66 g ((i + 1) * 68) (L.length - i) dc ⟨g, i * 68, none⟩ (L.length + 1 - i) sc cur 66 _ 68 (L.length - i) Try.underlying118 Ev.sizeS hW (by simp only [Nat.min_def]; split <;> omega) hdl
      (fun j u hj => by
        rw [Addr.add_lit]
        have hW2 : W.cell? ⟨g, i * 68 + j, none⟩ = w.cell? ⟨g, i * 68 + j, none⟩ := by simp [World.cell?, hW, hg]
        rw [hW2]
        refine hcells _ u ?_
        rw [evs_drop, List.getElem?_drop] at hj
        exact hj)
      (by rw [hdl]; have : (i + 1) * 68 + (L.length - i) * 68 = (L.length + 1) * 68 := by rw [← Nat.add_mul]; congr 1; omega
          omega) (evs_one _)
  obtain ⟨r1, hr1⟩ : ∃ r1, r1 = cur.toList.take ((i + 1) * 68) ++ (L.drop i).flatMap EvV.cells ++ cur.toList.drop ((i + 1) * 68 + ((L.drop i).flatMap EvV.cells).length) := ⟨_, rfl⟩
  rw [← hr1] at hcp1
  have hr1l : r1.length = cur.size := by
    rw [hr1]; simp only [List.length_append, List.length_take, List.length_drop, hdl, Array.length_toList]
    have : (i + 1) * 68 + (L.length - i) * 68 = (L.length + 1) * 68 := by rw [← Nat.add_mul]; congr 1; omega
    omega
  -- the second
  have hcp2 : ∀ (W : World), W.heap[g]? = some (.cells r1.toArray 66 (0, 0)) → (∀ j u, e.cells[j]? = some u → W.cell? ⟨vb, j, none⟩ = some u) → ∀ ty dc, (Builtin.copy_ #[118, 118] ty #[.slice (some ⟨g, i * 68, none⟩) (L.length + 1 - i) dc, .slice (some ⟨vb, 0, none⟩) 1 1]).run Try.prog W = .ok (goInt 1) (W.setRow g (r1.take (i * 68) ++ e.cells ++ r1.drop (i * 68 + e.cells.length)).toArray) := fun W hW hWv ty dc => by
    have := run_copy_rowK W 118 118 ty 66 g (i * 68) (L.length + 1 - i) dc ⟨vb, 0, none⟩ 1 1 r1.toArray 66 e.cells 68 1 Try.underlying118 Ev.sizeS hW (by simp only [Nat.min_def]; split <;> omega) (by rw [e.length])
      (fun j u hj => by rw [Addr.add_lit, Nat.zero_add]; exact hWv j u hj) (by rw [e.length, List.size_toArray, hr1l]; have : i * 68 + 68 ≤ (L.length + 1) * 68 := by have := Nat.mul_le_mul_right 68 (show i + 1 ≤ L.length + 1 by omega); omega
                                                                               omega) e.one
    simpa using this
  obtain ⟨r2, hr2⟩ : ∃ r2, r2 = r1.take (i * 68) ++ e.cells ++ r1.drop (i * 68 + e.cells.length) := ⟨_, rfl⟩
  rw [← hr2] at hcp2
  obtain ⟨hrl, hrt⟩ := shift_row cur.toList L e i (by omega) (by rw [ht]) (by simpa using hsz2) r1 r2 hr1 hr2
  have hov := overlaps_no (w := w) g ((i + 1) * 68) (L.length - i) (c - (i + 1)) 66 cur hg (by omega) hv hne
  have hcp1w := hcp1 w.drew hg
  have hW1g : (w.drew.setRow g r1.toArray).heap[g]? = some (.cells r1.toArray 66 (0, 0)) := setRow_heap w.drew g cur r1.toArray 66 (0, 0) hg
  have hW1v : ∀ j u, e.cells[j]? = some u → (w.drew.setRow g r1.toArray).cell? ⟨vb, j, none⟩ = some u := fun j u hj => by
    have hb : Blk (w.drew.setRow g r1.toArray) vb 66 e.cells.toArray := Blk.mods (show Blk w.drew vb 66 e.cells.toArray from hv) ((Mods.refl (fun k => k = g) w.drew).setRow (g := g) (.inl rfl) r1.toArray) hne
    rw [hb.cell j]; simpa using hj
  have hcp2w := hcp2 (w.drew.setRow g r1.toArray) hW1g hW1v
  have Hfin : Hid (Done w (some ⟨g, 0, none⟩) (L.take i ++ e :: L.drop i) (L.length + 1) (.returned (.slice (some ⟨g, 0, none⟩) (L.length + 1) c)) ((w.drew.setRow g r1.toArray).setRow g r2.toArray)) := hide (by
    refine ⟨some ⟨g, 0, none⟩, c, rfl, ⟨?_, .inr ⟨g, c, r2.toArray, rfl, Nat.zero_le _, ?_, hroom, hcm, ?_, ?_⟩⟩, ?_, fun k hk => .inl hk⟩
    · rw [evs_length]; congr 1; simp; omega
    · exact setRow_heap _ g r1.toArray r2.toArray 66 (0, 0) hW1g
    · simp only [List.size_toArray, hrl, Array.length_toList]; exact hsz
    · simpa using hrt
    · have h1 := ((Mods.refl (fun k => blkOf (some (⟨g, 0, none⟩ : Addr)) = some k) w).drew).setRow (g := g) (.inl rfl) r1.toArray
      exact h1.setRow (g := g) (.inl rfl) r2.toArray)
  have hw1 : IntKind.i64.wrap ((L.length : Int) + 1) = (L.length : Int) + 1 := IntWalk.i64_in _ (by omega)
  have hw2 : IntKind.i64.wrap ((i : Int) + 1) = (i : Int) + 1 := IntWalk.i64_in _ (by omega)
  have hin : i ≤ L.length := by omega
  have hz2 : ((i : Int) == (L.length : Int)) = false := beq_eq_false_iff_ne.2 (by omega)
  have b1 : ¬ (c = i) := by omega
  have b2 : ¬ (c = i + 1) := by omega
  have b3 : (i : Int) + 1 ≤ (L.length : Int) + 1 := by omega
  have b4 : (L.length : Int) + 1 ≤ (c : Int) := by omega
  have b5 : (i : Int) ≤ (L.length : Int) + 1 := by omega
  have b6 : (0 : Int) ≤ (i : Int) + 1 := by omega
  have b7 : (0 : Int) ≤ (L.length : Int) + 1 := by omega
  have t1 : ((i : Int) + 1).toNat = i + 1 := by omega
  have t2 : ((L.length : Int) + 1).toNat = L.length + 1 := by omega
  have b8 : ¬ ((c : Int) < (L.length : Int) + 1) := by omega
  have Hcp1 := hide hcp1w
  have Hcp2 := hide hcp2w
  clear hown hv hvA hcap hcm hg hc hsz ht hdl hsz2 hcells hcp1 hcp2 hr1 hr2 hr1l hrl hrt hcp1w hW1g hW1v hcp2w hl hc63
  go_enter Try.func81, Try.ntmps81
  go_wp2_with (simp only [hov])
  refine Reg.wp_region_reads (fun _ => True) 8 8 (by decide +kernel) (by decide +kernel) trivial ?_
  simp only [List.take_succ_cons, List.take_zero, List.drop_succ_cons, List.drop_zero]
  iterate 8
    apply Reg.wpReads_step rfl
    · intro w' hS
      skip
      go_simp
      first | done | rfl
    intro K hK
    go_simp
    refine hK _ ?_
    clear hK K
  refine Reg.wpReads_nil ?_
  refine Reg.wpTail_list _ _ _ _ (by omega) ?_
  refine wpList_copy_run8 _ rfl (.tmp 73) (.tmp 76) 118 118 rfl _ _ rfl rfl (Hcp1.out _ _ _) ?_
  go_wp2_with fail
  refine NoPanic.normal ?_
  go_wp2_with (refine wpList_copy_run8 _ rfl (.tmp 80) (.tmp 81) 118 118 rfl _ _ rfl rfl (Hcp2.out _ _) ?_)
  go_ret
  exact Hfin.out
theorem grow_row (row : List Value) (L : List EvV) (e : EvV) (i : Nat) (hi : i ≤ L.length) (hrow : row.take (i * 68) = (L.take i).flatMap EvV.cells) (hroom : (L.length + 1) * 68 ≤ row.length) (r1 r2 : List Value)
    (h1 : r1 = row.take (i * 68) ++ e.cells ++ row.drop (i * 68 + e.cells.length)) (h2 : r2 = r1.take ((i + 1) * 68) ++ (L.drop i).flatMap EvV.cells ++ r1.drop ((i + 1) * 68 + ((L.drop i).flatMap EvV.cells).length)) :
    r1.length = row.length ∧ r2.length = row.length ∧ r2.take ((L.length + 1) * 68) = (L.take i ++ e :: L.drop i).flatMap EvV.cells := by
  have hd : ((L.drop i).flatMap EvV.cells).length = (L.length - i) * 68 := by rw [evs_length, List.length_drop]
  have ht : ((L.take i).flatMap EvV.cells).length = i * 68 := by rw [evs_length, List.length_take]; congr 1; omega
  have he := e.length
  have hsum : (i + 1) * 68 + (L.length - i) * 68 = (L.length + 1) * 68 := by rw [← Nat.add_mul]; congr 1; omega
  have hl1 : r1.length = row.length := by
    rw [h1]; simp only [List.length_append, List.length_take, List.length_drop, he]; omega
  have hr1 : r1.take ((i + 1) * 68) = (L.take i).flatMap EvV.cells ++ e.cells := by
    rw [h1, hrow, List.take_append_of_le_length (by simp only [List.length_append, ht, he]; omega), List.take_of_length_le (by simp only [List.length_append, ht, he]; omega)]
  refine ⟨hl1, ?_, ?_⟩
  · rw [h2]; simp only [List.length_append, List.length_take, List.length_drop, hd]; omega
  · rw [h2, hr1, List.take_append_of_le_length (by simp only [List.length_append, ht, hd, he]; omega), List.take_of_length_le (by simp only [List.length_append, ht, hd, he]; omega)]
    simp
set_option maxRecDepth 100000 in
set_option maxHeartbeats 2000000 in
/-- There is no room: a new row. -/
theorem grow_any (i : Nat) (hi : i < L.length) (hown : w.ownsRow 0 66 68 (.slice A L.length c) L.length (L.flatMap EvV.cells)) (hroom : c < L.length + 1) (hv : Blk w vb 66 e.cells.toArray) (hl : L.length < 65536) :
    Calls Try.prog 81 #[.slice A L.length c, .int .i64 (i : Int), .slice (some ⟨vb, 0, none⟩) 1 1] w (Done w A (L.take i ++ e :: L.drop i) (L.length + 1)) := by
  obtain ⟨i0, hi0, hz0, hzs, hzb⟩ := info_parts Ev.info
  have hcap := own_cap hown
  have hcl : c = L.length := by omega
  rcases hown.2 with ⟨h', h0⟩ | ⟨g, cap, cur, h', _, hg, hc, _, hsz, ht⟩
  · omega
  simp only [Value.slice.injEq, true_and] at h'
  obtain ⟨rfl, rfl⟩ := h'
  subst hcl
  have hgl : g < w.heap.size := (Array.getElem?_eq_some_iff.1 hg).1
  have hvl := hv.lt
  have hdl : ((L.drop i).flatMap EvV.cells).length = (L.length - i) * 68 := by rw [evs_length, List.length_drop]
  have htl : ((L.take i).flatMap EvV.cells).length = i * 68 := by rw [evs_length, List.length_take]; congr 1; omega
  have hcells : ∀ j u, (L.flatMap EvV.cells)[j]? = some u → w.cell? ⟨g, j, none⟩ = some u := fun j u hj => by
    have := hown.cells (g := g) rfl j u hj
    rwa [Addr.add_lit, Nat.zero_add] at this
  have hold : (Builtin.firstCells i0.size i (.slice (some ⟨g, 0, none⟩) i L.length)).run Try.prog w.drew = .ok ((L.take i).flatMap EvV.cells).toArray w.drew := by
    rw [hzs]
    exact run_firstCells_some w.drew 68 i ⟨g, 0, none⟩ i L.length _ htl (fun j u hj => by
      rw [Addr.add_lit, Nat.zero_add]
      rw [evs_take, List.getElem?_take] at hj
      split at hj
      · exact hcells j u hj
      · cases hj)
  have hik : i + (L.length + 1 - i) = L.length + 1 := by omega
  have hkk : (L.length : Int) + 1 - (i : Int) = ((L.length + 1 - i : Nat) : Int) := by omega
  have hrz := fun ty => Lib.run_append_grow_zeros w 118 3 ty 66 i0 _ .i64 .i64 Try.underlying118 Try.underlying3 hi0 hz0 (some ⟨g, 0, none⟩) i L.length _ hold (L.length + 1 - i) (by omega) (by omega) (by omega) (by omega) (by rw [hzb]; omega) (by rw [hzb, hik]; exact growslice_fits hroom (by omega))
  simp only [hik, ← hkk] at hrz
  obtain ⟨G, hG⟩ : ∃ G, G = grownCap w (L.length + 1) L.length 66 := ⟨_, rfl⟩
  rw [← hG] at hrz
  have hGn : L.length + 1 ≤ G := by rw [hG]; exact grownCap_ge w _ _ _
  have hGm : G ≤ maxLen := by rw [hG]; exact grownCap_le_maxLen w _ _ _ (by unfold maxLen; omega)
  have hG63 : G ≤ 9223372036854775807 := by unfold maxLen at hGm; omega
  obtain ⟨ROW, hROW⟩ : ∃ ROW : Array Value, ROW = ((L.take i).flatMap EvV.cells).toArray ++ Builtin.zeroCells EvV.zero.agg.cells (L.length + 1 - i) ++ Builtin.zeroCells EvV.zero.agg.cells (G - (L.length + 1)) := ⟨_, rfl⟩
  rw [← hROW] at hrz
  have hRl : ROW.size = G * 68 := by
    rw [hROW]
    have hz : EvV.zero.agg.cells.size = 68 := by simp [EvV.agg, Value.cells, EvV.length]
    simp only [Array.size_append, List.size_toArray, htl, Builtin.zeroCells, Array.size_map, Array.size_range, hz]
    rw [← Nat.add_mul, ← Nat.add_mul]
    congr 1
    omega
  have hRl2 : ROW.toList.length = G * 68 := by simpa using hRl
  have hRt : ROW.toList.take (i * 68) = (L.take i).flatMap EvV.cells := by
    rw [hROW]
    simp only [Array.toList_append]
    rw [List.append_assoc, List.take_append_of_le_length (by rw [htl]; omega), List.take_of_length_le (by rw [htl]; omega)]
  obtain ⟨r1, hr1⟩ : ∃ r1, r1 = ROW.toList.take (i * 68) ++ e.cells ++ ROW.toList.drop (i * 68 + e.cells.length) := ⟨_, rfl⟩
  obtain ⟨r2, hr2⟩ : ∃ r2, r2 = r1.take ((i + 1) * 68) ++ (L.drop i).flatMap EvV.cells ++ r1.drop ((i + 1) * 68 + ((L.drop i).flatMap EvV.cells).length) := ⟨_, rfl⟩
  have hsz2 : (L.length + 1) * 68 ≤ G * 68 := Nat.mul_le_mul_right 68 hGn
  obtain ⟨hl1, hl2, hrt⟩ := grow_row ROW.toList L e i (by omega) hRt (by rw [hRl2]; exact hsz2) r1 r2 hr1 hr2
  rw [hRl2] at hl1 hl2
  have hsum : (i + 1) * 68 + (L.length - i) * 68 = (L.length + 1) * 68 := by rw [← Nat.add_mul]; congr 1; omega
  have hN : (w.drew.alloc (.cells ROW 66)).heap[w.heap.size]? = some (.cells ROW 66 (0, 0)) := heap_alloc_new w.drew _
  have hbN : Below w.heap.size w (w.drew.alloc (.cells ROW 66)) := (Below.refl _ w).drew.alloc (Nat.le_refl _) _
  have hcpA : ∀ ty dc, (Builtin.copy_ #[118, 118] ty #[.slice (some ⟨w.heap.size, i * 68, none⟩) (L.length + 1 - i) dc, .slice (some ⟨vb, 0, none⟩) 1 1]).run Try.prog (w.drew.alloc (.cells ROW 66)) = .ok (goInt 1) ((w.drew.alloc (.cells ROW 66)).setRow w.heap.size r1.toArray) := fun ty dc => by
    have := run_copy_rowK (w.drew.alloc (.cells ROW 66)) 118 118 ty 66 w.heap.size (i * 68) (L.length + 1 - i) dc ⟨vb, 0, none⟩ 1 1 ROW 66 e.cells 68 1 Try.underlying118 Ev.sizeS hN (by simp only [Nat.min_def]; split <;> omega) (by rw [e.length])
      (fun j u hj => by
        rw [Addr.add_lit, Nat.zero_add]
        refine (hbN.cell (p := ⟨vb, j, none⟩) hvl).trans ?_
        rw [hv.cell j]; simpa using hj) (by rw [e.length, hRl]; omega) e.one
    rw [← hr1] at this
    simpa using this
  have hN1 : ((w.drew.alloc (.cells ROW 66)).setRow w.heap.size r1.toArray).drew.heap[w.heap.size]? = some (.cells r1.toArray 66 (0, 0)) := setRow_heap _ w.heap.size ROW r1.toArray 66 (0, 0) hN
  have hbN1 : Below w.heap.size w ((w.drew.alloc (.cells ROW 66)).setRow w.heap.size r1.toArray).drew := (below_setRow hbN (Nat.le_refl _) _).drew
  have hcpB : ∀ ty dc sc, (Builtin.copy_ #[118, 118] ty #[.slice (some ⟨w.heap.size, (i + 1) * 68, none⟩) (L.length - i) dc, .slice (some ⟨g, i * 68, none⟩) (L.length - i) sc]).run Try.prog ((w.drew.alloc (.cells ROW 66)).setRow w.heap.size r1.toArray).drew = .ok (goInt ((L.length - i : Nat) : Int)) (((w.drew.alloc (.cells ROW 66)).setRow w.heap.size r1.toArray).drew.setRow w.heap.size r2.toArray) := fun ty dc sc => by
    have := run_copy_rowK ((w.drew.alloc (.cells ROW 66)).setRow w.heap.size r1.toArray).drew 118 118 ty 66 w.heap.size ((i + 1) * 68) (L.length - i) dc ⟨g, i * 68, none⟩ (L.length - i) sc r1.toArray 66 ((L.drop i).flatMap EvV.cells) 68 (L.length - i) Try.underlying118 Ev.sizeS hN1 (by simp) hdl
      (fun j u hj => by
        rw [Addr.add_lit]
        refine (hbN1.cell (p := ⟨g, i * 68 + j, none⟩) hgl).trans (hcells _ u ?_)
        rw [evs_drop, List.getElem?_drop] at hj
        exact hj) (by rw [hdl, List.size_toArray, hl1]; omega) (evs_one _)
    rw [show r1.toArray.toList = r1 from rfl, ← hr2] at this
    exact this
  have Hfin : Hid (Done w (some ⟨g, 0, none⟩) (L.take i ++ e :: L.drop i) (L.length + 1) (.returned (.slice (some ⟨w.heap.size, 0, none⟩) (L.length + 1) G)) (((w.drew.alloc (.cells ROW 66)).setRow w.heap.size r1.toArray).drew.setRow w.heap.size r2.toArray)) := hide (by
    refine ⟨some ⟨w.heap.size, 0, none⟩, G, rfl, ⟨?_, .inr ⟨w.heap.size, G, r2.toArray, rfl, Nat.zero_le _, ?_, hGn, hGm, ?_, ?_⟩⟩, ?_, fun k hk => .inr ?_⟩
    · rw [evs_length]; congr 1; simp; omega
    · exact setRow_heap _ w.heap.size r1.toArray r2.toArray 66 (0, 0) hN1
    · simp only [List.size_toArray, hl2]
    · simpa using hrt
    · exact Mods.of_below (below_setRow hbN1 (Nat.le_refl _) _) _
    · simp [blkOf] at hk; omega)
  have hw1 : IntKind.i64.wrap ((L.length : Int) + 1) = (L.length : Int) + 1 := IntWalk.i64_in _ (by omega)
  have hw2 : IntKind.i64.wrap ((i : Int) + 1) = (i : Int) + 1 := IntWalk.i64_in _ (by omega)
  have hw3 : IntKind.i64.wrap ((L.length : Int) + 1 - (i : Int)) = (L.length : Int) + 1 - (i : Int) := IntWalk.i64_in _ (by omega)
  have hin : i ≤ L.length := by omega
  have hz2 : ((i : Int) == (L.length : Int)) = false := beq_eq_false_iff_ne.2 (by omega)
  have b1 : ¬ (L.length = i) := by omega
  have b2 : ¬ (G = i) := by omega
  have b3 : ¬ (G = i + 1) := by omega
  have b4 : (i : Int) + 1 ≤ (L.length : Int) + 1 := by omega
  have b5 : (i : Int) ≤ (L.length : Int) + 1 := by omega
  have b6 : (0 : Int) ≤ (i : Int) + 1 := by omega
  have b8 : (L.length : Int) < (L.length : Int) + 1 := by omega
  have b9 : (i : Int) ≤ (L.length : Int) := by omega
  have t1 : ((i : Int) + 1).toNat = i + 1 := by omega
  have Hrz := hide hrz
  have HcpA := hide hcpA
  have HcpB := hide hcpB
  clear hown hv hcap hcells hold hrz hROW hRl hRt hr1 hr2 hl1 hl2 hrt hN hbN hcpA hN1 hbN1 hcpB hG hg hc hsz ht hdl htl hsz2 hsum hGm hG63 hik hkk hl
  go_enter Try.func81, Try.ntmps81
  go_wp2_with (first
    | (at_builtin; refine Lib.wpList_append_run _ rfl (.tmp 34) (.tmp 39) 118 3 rfl _ _ rfl rfl _ _ (Hrz.out _) ?_)
    | (refine wpList_copy_run8 _ rfl (.tmp 43) (.tmp 44) 118 118 rfl _ _ rfl rfl (HcpA.out _ _) ?_))
  refine Reg.wp_region_reads (fun _ => True) 8 8 (by decide +kernel) (by decide +kernel) trivial ?_
  simp only [List.take_succ_cons, List.take_zero, List.drop_succ_cons, List.drop_zero]
  iterate 8
    apply Reg.wpReads_step rfl
    · intro w' hS
      skip
      go_simp
      first | done | rfl
    intro K hK
    go_simp
    refine hK _ ?_
    clear hK K
  refine Reg.wpReads_nil ?_
  refine Reg.wpTail_list _ _ _ _ (by omega) ?_
  refine wpList_copy_run8 _ rfl (.tmp 50) (.tmp 53) 118 118 rfl _ _ rfl rfl (HcpB.out _ _ _) ?_
  go_wp2_with fail
  refine NoPanic.normal ?_
  go_wp2_with fail
  go_ret
  exact Hfin.out
end
end Ins
end Go.Proofs.Ytdinbhanekpjoaa
