/-
  sectors (revetmentlaw07): it hands back a zone's sectors in a slice of its own.
-/
import Derived.Test.YtdinbhanekpjoaaItS
import Derived.Maps.OwnIn
namespace Go.Proofs.Ytdinbhanekpjoaa
open Go.RowKit Go.Shelf

attribute [local go_sem] Oper.semAt_some

theorem wpListIn_build1 {F : Fence} {n : Nat} {ops : Array Oper} {rest : List Oper} {o : Oper} {a : Act} {w : World} {Q : Exit → Act → World → Prop} (hgd : o.guard = none) (x : Sec) (p : Operand) (ho : o.op = .buildSlice 47 1 #[(0, p)]) (hp : a.eval p = .agg x.cs.toArray)
    (h : wpListIn F n Try.prog ops Q rest (a.put o.dst (.slice (some ⟨w.heap.size, 0, none⟩) 1 1)) (w.alloc (.cells x.cs.toArray 34))) : wpListIn F n Try.prog ops Q (o :: rest) a w := by
  refine wpListIn_plain hgd fun K hK => ⟨fun f hf => ?_, ?_⟩
  · simp [Oper.about, ho] at hf
  · rw [Oper.semAt_eq _ _ _ (by simp [ho])]
    unfold execOp
    simp only [ho, List.map_toArray, List.map_cons, List.map_nil, hp, Sem.run_bind, ZD.run_build1 x w, Result.andThen_ok]
    exact hK _ _ h

/-- What has been collected when pre has come. -/
def SecsOut (gb : Nat) (L : List Sec) (pre : List (Fin L.length)) (W : World) : Prop :=
  ∃ A c, Blk W gb 47 #[.slice A pre.length c] ∧ W.ownsRow (gb + 1) 34 64 (.slice A pre.length c) pre.length ((pre.map fun j => L[j.1]).flatMap Sec.cs)
theorem SecsOut.below {gb : Nat} {L : List Sec} {pre : List (Fin L.length)} {W W' : World} (h : SecsOut gb L pre W) (hb : Below W.heap.size W W') : SecsOut gb L pre W' := by
  obtain ⟨A, c, hk, ho⟩ := h
  exact ⟨A, c, (hb.block _ hk.lt).trans hk, own_mods ho (Mods.of_below hb (fun _ => False)) (fun _ _ h => h)⟩
theorem secsOut_own (B gb : Nat) (L : List Sec) : OwnFrom B (SecsOut gb L) := fun pre W W' row hs hg hr => by
  obtain ⟨A, c, hk, ho⟩ := hs
  refine ⟨A, c, ItS.ownFrom_blk (β := Unit) B gb _ _ () W W' row hk hg hr, ho.1, ?_⟩
  rcases ho.2 with hn | ⟨g, cap, cur, hv, hb, hgg, rest⟩
  · exact .inl hn
  · refine .inr ⟨g, cap, cur, hv, hb, ?_, rest⟩
    exact ItS.ownFrom_blk (β := Unit) B g _ cur () W W' row hgg hg hr
theorem own_cellsB {w : World} {base : Nat} {e : TypeId} {size n : Nat} {v : Value} {xs : List Value} (h : w.ownsRow base e size v n xs) {g : Nat} (hg : v.ownBlock = some g) : ∃ cur, w.heap[g]? = some (.cells cur e (0, 0)) := by
  rcases h.2 with ⟨rfl, _⟩ | ⟨g', cap, cur, rfl, _, hh, _⟩
  · simp [Value.ownBlock] at hg
  · simp only [Value.ownBlock, Option.some.injEq] at hg
    exact ⟨cur, hg ▸ hh⟩
theorem secs_all {β : Type} (l : List β) : ((ItS.upto l.length l.length).map fun j => l[j.1]) = l := by
  exact List.ext_getElem (by simp [ItS.upto]) (fun i h1 h2 => by simp [ItS.upto])
/-- The activation of the body: the slice's box and the sector's. -/
def secFrame (gb g7 : Nat) (v : Nat → Value) : Act := { tmps := #[v 0, v 1, v 2, v 3, v 4, .pointer (some ⟨gb, 0, none⟩), v 6, .pointer (some ⟨g7, 0, none⟩), v 8, v 9, v 10, v 11, v 12, v 13, v 14, v 15, v 16, v 17], defers := [] }

section
variable {w : World} {d : Nat} {D : Dv} {F : Nat → Prop} {A : Option Addr} {c : Nat} {bs : List Nat} {Fs : Nat → Nat → Prop}
set_option maxRecDepth 100000 in
set_option maxHeartbeats 2000000 in
theorem sectors_any (h : DevIs w d D F A c bs Fs) (k : Nat) (hk : k < D.zs.length) (hL : D.zs[k].L.length < 65536) :
    Calls Try.prog 25 #[.pointer (some ⟨d, 0, none⟩), .int .i64 (k : Int)] w fun e w' => ∃ A' c', e = .returned (.slice A' D.zs[k].L.length c') ∧ w'.ownsRow 0 34 64 (.slice A' D.zs[k].L.length c') D.zs[k].L.length (D.zs[k].L.flatMap Sec.cs) ∧ (∀ g, (Value.slice A' D.zs[k].L.length c').ownBlock = some g → w.heap.size ≤ g) ∧ Below w.heap.size w w' := by
  have hb1 : Below w.heap.size w (w.alloc (.cells #[.slice none 0 0] 47)) := (Below.refl _ w).alloc (Nat.le_refl _) _
  have kb1 := Blk.new w 47 #[.slice none 0 0]
  have Hb1 := hide hb1
  have Kb1 := hide kb1
  have Hlook := hide (ItS.look_in (h.below hb1) k hk w.heap.size h.lt)
  have Hl := hide hL
  clear h hL hb1 kb1
  generalize D.zs[k] = z at Hlook Hl ⊢
  refine ItS.calls_of_wp_marks Try.func25 rfl ?_
  simp only [Try.ntmps25, List.size_toArray, List.length_cons, List.length_nil, Nat.reduceAdd, Nat.reduceSub, Array.replicate_succ, Array.replicate_zero, List.push_toArray, List.append_toArray, List.nil_append, List.cons_append]
  go_wp2_with fail
  refine Hlook.out.mono ?_
  rintro e w2 ⟨zA, zc, rfl, hw2, hsecs⟩
  have hb2 := (Below.refl (w.alloc (.cells #[.slice none 0 0] 47)).heap.size (w.alloc (.cells #[.slice none 0 0] 47))).alloc (Nat.le_refl _) (.cells #[.slice zA z.L.length zc] 47)
  have k6 := Blk.new (w.alloc (.cells #[.slice none 0 0] 47)) 47 #[.slice zA z.L.length zc]
  rw [hw2] at k6 hb2
  have kg := (hb2.block _ Kb1.out.lt).trans Kb1.out
  have hbw := Hb1.out.trans (hb2.mono Hb1.out.size)
  have hse := hsecs.below (hb2.mono Hb1.out.size)
  have Kg : Hid (Blk w2 w.heap.size 47 #[.slice none 0 0]) := hide kg
  have K6 := hide k6
  have Hbw := hide hbw
  have Hse := hide hse
  have hlt2 : w.heap.size < w2.heap.size := Nat.lt_of_lt_of_le (by simp) hb2.size
  have Hlt2 := hide hlt2
  clear hw2 hsecs hb2 k6 kg hbw hse Hlook Kb1 Hb1 hlt2
  rw [World.size_alloc] at K6 ⊢
  go_wp2_with fail
  rename_i hK2
  obtain ⟨i0, hi, hz0, hz1, hz2⟩ := info_parts ZD.infoE
  refine (wpIn_wide (n := 9)).1 (wpIn_rangeFunc_ownH rfl (by omega) rfl trivial (fun _ _ => rfl) (encs := ItS.encs z.L) (Kp := Below w.heap.size) (ItS.all_stops Fence.wide 8 trivial rfl (by omega) _ w.heap.size zA zc z.L (by have := Hl.out; omega) w2 K6.out.lt Hbw.out.size (K6.out.cell 0) Hse.out) belowK_t (belowK_b Hbw.out.size) (Below.refl _ _) (fun _ => rfl)
    (fun pre W => SecsOut w.heap.size z.L pre W ∧ Below w.heap.size w W ∧ w2.heap.size ≤ W.heap.size) (fun _ _ _ => False) ?_ (fun _ => ItS.ownFrom_pure _ _) ⟨⟨none, 0, Kg.out, World.ownsRow_nil _ _ _ _⟩, Hbw.out, Nat.le_refl _⟩
    (fun x a' W => ∃ g7, a' = secFrame w.heap.size g7 (fun i => a'.tmps.getD i undef) ∧ Blk W g7 34 z.L[x.1].cs.toArray) ?_ ?_ ?_ ?_ ?_)
  · exact (secsOut_own _ _ _).and ((ownFrom_below (Nat.le_refl _) Hbw.out.size).and (fun _ W W' row h hg _ => Nat.le_trans h hg.size))
  · rintro x a' _ W W' row ⟨g7, e, hb⟩ hg hr
    exact ⟨g7, e, ItS.ownFrom_blk (β := Unit) _ _ _ _ () W W' row hb hg hr⟩
  · rintro l pre x W K ⟨i1, iB, iS⟩ hKa
    have HI := hide (And.intro i1 (And.intro iB iS))
    have HKa := hide hKa
    have HZ := hide (Blk.new W 34 Sec.zero.cs.toArray)
    clear i1 iB iS hKa hK2
    dsimp only [ItS.encs]
    gi_wp2_with ((with_reducible refine ItS.wpListIn_store_row ?g2 34 (.tmp 7) (.tmp 12) ?o2 W.heap.size z.L[x.1].cs.toArray ?x2 ?y2 34 Sec.zero.cs.toArray ?k2 ?s2 ?l2 ?a2 ?_); (case g2 => exact rfl); (case o2 => exact rfl); (case x2 => exact rfl); (case y2 => exact rfl); (case k2 => exact HZ.out); (case s2 => exact ZD.sizeRow _); (case l2 => simp [Sec.len]); (case a2 => exact sec_all _))
    have hbY : Below W.heap.size W ((W.alloc (.cells Sec.zero.cs.toArray 34)).setRow W.heap.size z.L[x.1].cs.toArray) := below_setRow ((Below.refl _ W).alloc (Nat.le_refl _) _) (Nat.le_refl _) _
    have hWs : w.heap.size ≤ W.heap.size := HI.out.2.1.size
    refine HKa.out _ _ ⟨hbY.size, fun j o _ hj _ => (hbY.block j (Array.getElem?_eq_some_iff.1 hj).1).trans hj⟩ (hbY.mono hWs) ⟨HI.out.1.below hbY, HI.out.2.1.trans (hbY.mono hWs), Nat.le_trans HI.out.2.2 hbY.size⟩ ⟨W.heap.size, rfl, HZ.out.setRow _⟩
  · rintro l pre ⟨i, hi'⟩ a' W hl hrec ⟨⟨oA, oc, i1, io⟩, iB, iS⟩ ⟨g7, ha, hk7⟩ hpre
    dsimp only at hi' hk7 ha ⊢
    generalize (fun j => a'.tmps.getD j undef) = v at ha
    subst ha
    unfold secFrame
    have c1 : W.cell? ⟨w.heap.size, 0, none⟩ = some (.slice oA pre.length oc) := i1.cell 0
    have Hk7 := hide (ZD.range_blk _ hk7)
    have hl16 := Hl.out
    have hba : Below W.heap.size W (W.alloc (.cells z.L[i].cs.toArray 34)) := (Below.refl _ W).alloc (Nat.le_refl _) _
    have HO := hide (own_mods io (Mods.of_below hba (fun _ => False)) (fun _ _ h => h))
    have I1 := hide i1
    have IO := hide io
    have IB := hide iB
    have IS := hide iS
    have Hba := hide hba
    have Hcell : Hid (∀ j u, z.L[i].cs[j]? = some u → (W.alloc (.cells z.L[i].cs.toArray 34)).cell? ((⟨W.heap.size, 0, none⟩ : Addr).add j) = some u) := hide (fun j u hj => by
      rw [Addr.add_lit, Nat.zero_add, (Blk.new W 34 z.L[i].cs.toArray).cell j]
      simpa using hj)
    have Hsz : Hid (w.heap.size + 1 ≤ W.heap.size) := hide (by have := Hlt2.out; omega)
    clear hK2 i1 io iB iS hk7 hba hrec
    gi_wp2_with (first
      | ((with_reducible refine ItS.wpListIn_load_mid ?g3 34 (.tmp 7) ?o3 g7 0 ?x3 z.L[i].cs ?d3 ?r3 ?u3 ?f3 ?i3 ?_); (case g3 => exact rfl); (case o3 => exact rfl); (case x3 => exact rfl); (case r3 => exact Hk7.out); (case u3 => exact Try.underlying34); (case f3 => exact rfl); (case i3 => exact ZD.sizeSec _))
      | ((with_reducible refine wpListIn_build1 ?g4 z.L[i] (.tmp 14) ?o4 ?p4 ?_); (case g4 => exact rfl); (case o4 => exact rfl); (case p4 => exact rfl))
      | (gi_at_builtin; refine wpListIn_append_own_at _ rfl (.tmp 13) (.tmp 15) 47 rfl (w.heap.size + 1) 34 i0 _ 64 64 Try.underlying47 hi hz0 hz1 hz2 rfl (by decide) (.slice oA pre.length oc) pre.length ((pre.map fun j => z.L[j.1]).flatMap Sec.cs) rfl HO.out ⟨W.heap.size, 0, none⟩ 1 1 z.L[i].cs rfl (by simp [Sec.len]) Hcell.out z.L[i].one (by unfold maxLen; omega) (by omega) (by have := Hsz.out; simp; omega) ?_
         intro v' w1 hown' hgrow hnil hat
         obtain ⟨A', c', rfl⟩ := own_form hown'
         have Hgrow := hide hgrow
         have Hown := hide hown'
         have Kgb : Hid (Blk w1 w.heap.size 47 #[.slice oA pre.length oc]) := hide ((I1.out.alloc _).grown hgrow (fun e => by have := (IO.out.lt _ e.symm).1; omega))
         have f0 := Kgb.out.frozen 0
         have c2 : w1.cell? ⟨w.heap.size, 0, none⟩ = some (.slice oA pre.length oc) := Kgb.out.cell 0
         clear hown' hgrow hnil hat c1))
    have hs1 := Hgrow.out.size
    have hsz := Hsz.out
    rw [World.size_alloc] at hs1
    have hmW : Below w.heap.size (W.alloc (.cells z.L[i].cs.toArray 34)) w1 := ⟨Hgrow.out.os, Hgrow.out.tape, Hgrow.out.output, Hgrow.out.size, fun j hj => Hgrow.out.block j (by simp; omega) (fun e => by have := (IO.out.lt _ e.symm).1; omega)⟩
    have hbs : Below w.heap.size W (w1.setCell ⟨w.heap.size, 0, none⟩ (.slice A' (pre.length + 1) c')) := ((Hba.out.mono (by omega)).trans hmW).setCell (p := ⟨w.heap.size, 0, none⟩) (Nat.le_refl _) _
    refine ⟨⟨hbs.size, fun j o hB hj ho => ?_⟩, hbs, ⟨A', c', ?_, ?_⟩, IB.out.trans hbs, Nat.le_trans IS.out hbs.size⟩
    · have hjW : j < W.heap.size := (Array.getElem?_eq_some_iff.1 hj).1
      refine (Below.heap_setCell w1 ⟨w.heap.size, 0, none⟩ _ j (by have := Hlt2.out; dsimp only; omega)).trans ((Hgrow.out.block j (by simp; omega) (fun e => ?_)).trans ((Hba.out.block j hjW).trans hj))
      obtain ⟨cur, hc⟩ := own_cellsB IO.out e.symm
      rw [hj] at hc
      cases hc
      simp [Obj.isCells] at ho
    · have := Kgb.out.set_ 0 (.slice A' (pre.length + 1) c')
      simpa using this
    · have := own_mods Hown.out ((Mods.refl (fun b => b = w.heap.size) w1).setCell (p := ⟨w.heap.size, 0, none⟩) (.inl rfl) (.slice A' (pre.length + 1) c')) (fun g hg e => by have := (Hown.out.lt g hg).1; omega)
      simpa using this
  · rintro D' xs W hD rfl ⟨⟨oA, oc, i1, io⟩, iB, iS⟩ hdef
    refine hK2 _ _ ?_
    clear hK2
    rw [ItS.upto_length (Nat.le_refl _)] at i1 io
    have c1 : W.cell? ⟨w.heap.size, 0, none⟩ = some (.slice oA z.L.length oc) := i1.cell 0
    have hall : ((ItS.upto z.L.length z.L.length).map fun j => z.L[j.1]) = z.L := secs_all z.L
    rw [hall] at io
    have Io := hide io
    have IB := hide iB
    have HD := hide hD
    have Hdef := hide hdef
    clear i1 io iB hD hdef hall
    go_wp2_with fail
    refine ItS.leaves_marks [D'] _ (fun D2 hD2 => by rw [List.mem_singleton.1 hD2]; exact Hdef.out) (by simp) (fun w' hw' => ?_)
    have hbm := ItS.below_marks (n := D') hw' (fun D2 hD2 => by rw [List.mem_singleton.1 hD2]; exact Nat.le_refl _)
    refine ⟨.slice oA z.L.length oc, by simp [results, Try.f25, go_sem], oA, oc, rfl, ?_, ?_, IB.out.trans (hbm.mono (by have := HD.out; have := Hlt2.out; omega))⟩
    · refine own_mods (S := fun b => b = D') (own_base Io.out) ⟨hw'.1, hw'.2.1, hw'.2.2.1, Nat.le_of_eq hw'.2.2.2.1.symm, fun j _ hj => hw'.2.2.2.2 j (by simpa using hj)⟩ (fun g hg e => ?_)
      obtain ⟨cur, hc⟩ := own_cellsB Io.out hg
      rw [e, Hdef.out] at hc
      cases hc
    · intro g hg
      have := (Io.out.lt g hg).1
      omega
  · rintro D' cc pre W hD _ h _
    exact h.elim
end
end Go.Proofs.Ytdinbhanekpjoaa
