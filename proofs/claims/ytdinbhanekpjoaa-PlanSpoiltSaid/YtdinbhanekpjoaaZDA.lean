/-
  The zone's Append at frame.Sector.
-/
import Derived.Test.YtdinbhanekpjoaaZDC
import Derived.Deep.RegionHeld3
import Derived.Deep.AppendLies
import Derived.Test.YtdinbhanekpjoaaReg
namespace Go.Proofs.Ytdinbhanekpjoaa.ZD
open Go.RowKit

theorem sizeS : (Try.prog.info? 34).map (·.size) = some 64 := by kernel_rfl
theorem sizeSec (x : Sec) : (Try.prog.info? 34).map (·.size) = some x.cs.length := by rw [x.len]; exact sizeS
/-- The cells of a block that holds a sector. -/
theorem range_blk {w : World} {g : Nat} {t : TypeId} {fr : Nat × Nat} (x : Sec) (h : w.heap[g]? = some (.cells x.cs.toArray t fr)) : w.rangeAt g 0 x.cs := fun j v hv => by
  rw [cell_of_row _ _ _ _ _ _ h]
  simpa using hv

theorem own_sec {w : World} {g : Nat} {e : TypeId} (x : Sec) (h : w.heap[g]? = some (.cells x.cs.toArray e (0, 0))) : w.ownsRow 0 e 64 (.slice (some ⟨g, 0, none⟩) 1 1) 1 x.cs :=
  ⟨by simp [x.len], .inr ⟨g, 1, x.cs.toArray, rfl, Nat.zero_le _, h, Nat.le_refl _, by simp [maxLen], by simp [x.len], by simp [x.len, List.take_of_length_le]⟩⟩
theorem fold_from (l : List Value) : ∀ (k : Nat) (base : Array Value), k + l.length = base.size → (l.zipIdx k).foldl (fun cs p => cs.setIfInBounds p.2 p.1) base = (base.toList.take k ++ l).toArray := by
  induction l with
  | nil =>
    intro k base h
    have : base.toList.take k = base.toList := List.take_of_length_le (by simp at h ⊢; omega)
    simp [this]
  | cons v l ih =>
    intro k base h
    simp only [List.length_cons] at h
    rw [List.zipIdx_cons, List.foldl_cons, ih (k + 1) _ (by simp; omega)]
    congr 1
    have hk : k < base.toList.length := by simp; omega
    simp only [Array.toList_setIfInBounds]
    rw [List.take_succ_eq_append_getElem (by simpa using hk), List.take_set_of_le (Nat.le_refl k)]
    simp
theorem fold_fill (l : List Value) (base : Array Value) (h : base.size = l.length) : (l.zipIdx).foldl (fun cs p => cs.setIfInBounds p.2 p.1) base = l.toArray := by
  rw [fold_from l 0 base (by omega)]
  simp
set_option maxRecDepth 100000 in
theorem run_build1 (x : Sec) (w : World) : (Instr.buildSlice 47 1 #[(0, .agg x.cs.toArray)]).run Try.prog w = .ok (.slice (some ⟨w.heap.size, 0, none⟩) 1 1) (w.alloc (.cells x.cs.toArray 34)) := by
  have hl := x.len
  go_simp
  rw [fold_fill _ _ (by rw [x.len]; rfl)]
theorem wp_build1 {o : Oper} {a : Act} {w : World} {K : Act → World → Prop} {Q : Exit → Act → World → Prop} (x : Sec) (p : Operand) (ho : o.op = .buildSlice 47 1 #[(0, p)]) (hp : a.eval p = .agg x.cs.toArray)
    (h : K (a.put o.dst (.slice (some ⟨w.heap.size, 0, none⟩) 1 1)) (w.alloc (.cells x.cs.toArray 34))) : o.wp Try.prog a w K Q := by
  unfold Oper.wp execOp
  simp only [ho, List.map_toArray, List.map_cons, List.map_nil, hp, Sem.run_bind, run_build1 x w, Result.andThen_ok]
  exact h

set_option maxRecDepth 100000 in
set_option maxHeartbeats 1000000 in
theorem append_any (z : Zn Sec) (x : Sec) (b : Nat) (w : World) (F : Nat → Prop) (hz : At w b z F) (hn : z.L.length < 65536) :
    Calls Try.prog 61 #[.pointer (some ⟨b, 0, none⟩), x.agg] w fun e w' =>
      e = .returned (.tuple #[.int .i64 (z.append x).2.1, .int .i64 (z.append x).2.2]) ∧ Does w w' b (z.append x).1 F := by
  have hz' := hide hz
  obtain ⟨A, c, hb, hFb, hown, hg, hlt⟩ := hz
  have c0 : w.cell? ⟨b, 0, none⟩ = _ := hb.cell 0
  have c1 : w.cell? ⟨b, 1, none⟩ = _ := hb.cell 1
  have c3 : w.cell? ⟨b, 3, none⟩ = _ := hb.cell 3
  simp only [List.getElem?_toArray, List.getElem?_cons_zero, List.getElem?_cons_succ] at c0 c1 c3
  unfold Sec.agg
  have hbl := hb.lt
  have hB0 : Below w.heap.size w (w.alloc (.cells x.cs.toArray 34)) := (Below.refl _ w).alloc (Nat.le_refl _) _
  have hbx : Blk (w.alloc (.cells x.cs.toArray 34)) b 131 #[.slice A z.L.length c, .int .i64 z.size, .int .i64 (z.safe : Int), .int .i64 z.state, .bool z.fin] := hb.alloc _
  have hra := range_blk x (heap_alloc_new w (.cells x.cs.toArray 34))
  have hownx := hown.alloc (.cells x.cs.toArray 34)
  have hm0 : Mods F w (w.alloc (.cells x.cs.toArray 34)) := (Mods.refl F w).alloc _
  have hs0 : (w.alloc (.cells x.cs.toArray 34)).heap.size = w.heap.size + 1 := World.size_alloc _ _
  have Hs := hide hs0
  clear hs0
  by_cases hf : failedOf z.state = 0
  · have ef : (failedOf z.state != 0) = false := by simp [hf]
    by_cases h2 : z.state = 2
    · have e2 : (z.state == 2) = true := by simp [h2]
      have hfin := hide (Zn.append_full x hf h2)
      clear hf h2
      go_enter Try.func61, Try.ntmps61
      go_wp2_with fail
      have hm00 : Hid (Mods (fun _ => False) w (w.alloc (.cells x.cs.toArray 34))) := hide ((Mods.refl _ w).alloc _)
      have hBx := Blk.new w 34 x.cs.toArray
      obtain ⟨wx, hwx⟩ : ∃ wx, wx = w.alloc (.cells x.cs.toArray 34) := ⟨_, rfl⟩
      rw [← hwx] at hB0 hbx hra hownx hm0 Hs hm00 hBx ⊢
      clear hwx
      have HBx := hide hBx
      clear hBx
      have x0 : wx.cell? ⟨b, 0, none⟩ = some (.slice A z.L.length c) := hbx.cell 0
      have x1 : wx.cell? ⟨b, 1, none⟩ = some (.int .i64 z.size) := hbx.cell 1
      have x3 : wx.cell? ⟨b, 3, none⟩ = some (.int .i64 z.state) := hbx.cell 3
      go_wp2_with (go_at_call 90; refine (failed_any _ _ _ x3).mono ?_; rintro e w' ⟨rfl, rfl⟩)
      go_ret2
      rw [hfin.out]
      exact ⟨rfl, F, hz'.out.mods hm00.out (fun k hk hk2 => hk2.elim), hm0, fun k hk => .inl hk⟩
    · have e2 : (z.state == 2) = false := by simp [h2]
      obtain ⟨i0, hi, hz0, hz1, hz2⟩ := info_parts infoE
      by_cases hl : ((z.L.length + 1 : Nat) : Int) = z.size
      · have el : (((z.L.length + 1 : Nat) : Int) == z.size) = true := beq_iff_eq.2 hl
        have el' : ((z.L.length : Int) + 1 == z.size) = true := beq_iff_eq.2 (by omega)
        have hfin := hide (Zn.append_last x hf h2 hl)
        clear hf h2 hl
        go_enter Try.func61, Try.ntmps61
        go_wp2_with fail
        have hm00 : Hid (Mods (fun _ => False) w (w.alloc (.cells x.cs.toArray 34))) := hide ((Mods.refl _ w).alloc _)
        have hBx := Blk.new w 34 x.cs.toArray
        obtain ⟨wx, hwx⟩ : ∃ wx, wx = w.alloc (.cells x.cs.toArray 34) := ⟨_, rfl⟩
        rw [← hwx] at hB0 hbx hra hownx hm0 Hs hm00 hBx ⊢
        clear hwx
        have HBx := hide hBx
        clear hBx
        have x0 : wx.cell? ⟨b, 0, none⟩ = some (.slice A z.L.length c) := hbx.cell 0
        have x1 : wx.cell? ⟨b, 1, none⟩ = some (.int .i64 z.size) := hbx.cell 1
        have x3 : wx.cell? ⟨b, 3, none⟩ = some (.int .i64 z.state) := hbx.cell 3
        go_upto_region 6 with (go_at_call 90; refine (failed_any _ _ _ x3).mono ?_; rintro e w' ⟨rfl, rfl⟩)
        have hS2 : Hid ((wx.drew.alloc (.cells x.cs.toArray 34)).cell? ⟨b, 0, none⟩ = some (.slice A z.L.length c) ∧ (wx.drew.alloc (.cells x.cs.toArray 34)).rangeAt w.heap.size 0 x.cs) :=
          hide ⟨(World.cell?_alloc_lt wx.drew _ ⟨b, 0, none⟩ hbx.lt).trans x0, World.rangeAt_alloc ((World.rangeAt_drew wx _ _ _).2 hra) _⟩
        have hownd := hide (hownx.drew.alloc (.cells x.cs.toArray 34))
        have hsrc := hide (own_sec x (heap_alloc_new wx.drew (.cells x.cs.toArray 34)))
        refine Reg.wp_region_reads (fun w' => w'.cell? ⟨b, 0, none⟩ = some (.slice A z.L.length c) ∧ w'.rangeAt w.heap.size 0 x.cs) 6 8 (by decide +kernel) (by decide +kernel) ⟨x0, hra⟩ ?_
        simp only [List.take_succ_cons, List.take_zero, List.drop_succ_cons, List.drop_zero]
        iterate 5
          apply Reg.wpReads_step rfl
          · intro w' hS
            obtain ⟨s1, s2⟩ := hS
            go_simp
            first | done | rfl
          intro K hK
          go_simp
          refine hK _ ?_
          clear hK K
        refine Reg.wpReads_load rfl 34 (.tmp 3) rfl w.heap.size 0 rfl x.cs _ (fun w' h => h.2) Try.underlying34 rfl (sizeSec x) (fun K hK => ?_)
        go_simp
        refine hK _ ?_
        clear hK K
        refine Reg.wpReads_nil ?_
        refine Reg.wpTail_step rfl (fun K hK => ?_)
        refine wp_build1 x (.tmp 22) rfl rfl ?_
        go_simp
        refine hK _ _ (fun _ => hS2.out) ?_
        clear hK K
        refine Reg.wpTail_step rfl (fun K hK => ?_)
        refine wp_append_src _ (.tmp 21) (.tmp 23) 47 rfl 0 34 i0 _ 64 64 Try.underlying47 hi hz0 hz1 hz2 rfl (by decide) (.slice A z.L.length c) z.L.length (z.L.flatMap Sec.cs) rfl hownd.out _ 1 1 x.cs rfl hsrc.out x.one (by unfold maxLen; omega) (by omega) (Nat.zero_le _) ?_
        intro v' w1 hown' hgrow hat
        obtain ⟨A', c', rfl⟩ := own_form hown'
        go_simp
        have hb1 : Blk w1 b 131 #[.slice A z.L.length c, .int .i64 z.size, .int .i64 (z.safe : Int), .int .i64 z.state, .bool z.fin] := (hbx.drew.alloc _).grown hgrow (fun e => (hg b e.symm).2 rfl)
        have hBx1 : Blk w1 w.heap.size 34 x.cs.toArray := (HBx.out.drew.alloc _).grown hgrow (fun e => by have := hlt _ (hg _ e.symm).1; omega)
        have hM1 : Mods F w w1 := (hm0.drew.alloc _).grown hgrow (fun k hk => .inl (hg k hk).1)
        refine hK _ _ (fun _ => ⟨hb1.cell 0, range_blk x hBx1⟩) ?_
        clear hK K hBx1
        refine Reg.wpTail_list _ _ _ _ (by omega) ?_
        have d0 : w1.cell? ⟨b, 0, none⟩ = some (.slice A z.L.length c) := hb1.cell 0
        have d1 : w1.cell? ⟨b, 1, none⟩ = some (.int .i64 z.size) := hb1.cell 1
        have d3 : w1.cell? ⟨b, 3, none⟩ = some (.int .i64 z.state) := hb1.cell 3
        have f0 := hb1.frozen 0
        have f3 := hb1.frozen 3
        have hat' : Hid ((Value.slice A' (z.L.length + 1) c').ownBlock = (Value.slice A z.L.length c).ownBlock ∨ (Value.slice A' (z.L.length + 1) c').ownBlock = some (wx.heap.size + 1)) := by
          refine hide (hat.imp id (fun h => ?_))
          rw [h]
          exact congrArg some (World.size_alloc wx _)
        clear hat
        go_wp2_with fail
        refine NoPanic.normal ?_
        go_wp2_with fail
        go_quiet (fail)
        go_wp2
        go_ret2
        rw [hfin.out]
        have hne : (Value.slice A' (z.L.length + 1) c').ownBlock ≠ some b := fun e => by
          rcases hat'.out with h | h <;> rw [h] at e
          · exact (hg b e).2 rfl
          · have := Hs.out; simp at e; omega
        refine ⟨rfl, ?_⟩
        refine SDid.mk' (A := A') (c := c') (z' := { z with L := z.L ++ [x], state := 2 }) ?_ ?_ hFb ?_ ?_ hlt
        · simp only [List.length_append, List.length_cons, List.length_nil]
          exact (((hb1.set_ 0 _).set_ 3 _).drewN _).set_ 3 _
        · repeat (first | exact hM1 | apply Mods.drewN | refine Mods.setCell ?_ (.inl hFb) _)
        · simp only [List.length_append, List.length_cons, List.length_nil, flat_snoc]
          repeat (first | exact hown' | exact own_setCell (by assumption) hne _ | refine own_setCell ?_ hne _ | refine own_drewN ?_ _)
        · intro g hg'
          simp only [List.length_append, List.length_cons, List.length_nil] at hg'
          have hg2 : (Value.slice A' (z.L.length + 1) c').ownBlock = some g := hg'
          rcases hat'.out with h | h <;> rw [h] at hg2
          · exact .inl (hg g hg2)
          · right; have := Hs.out; simp at hg2; omega
      · have el : (((z.L.length + 1 : Nat) : Int) == z.size) = false := beq_eq_false_iff_ne.2 hl
        have el' : ((z.L.length : Int) + 1 == z.size) = false := beq_eq_false_iff_ne.2 (by omega)
        have hfin := hide (Zn.append_more x hf h2 hl)
        clear hf h2 hl
        go_enter Try.func61, Try.ntmps61
        go_wp2_with fail
        have hm00 : Hid (Mods (fun _ => False) w (w.alloc (.cells x.cs.toArray 34))) := hide ((Mods.refl _ w).alloc _)
        have hBx := Blk.new w 34 x.cs.toArray
        obtain ⟨wx, hwx⟩ : ∃ wx, wx = w.alloc (.cells x.cs.toArray 34) := ⟨_, rfl⟩
        rw [← hwx] at hB0 hbx hra hownx hm0 Hs hm00 hBx ⊢
        clear hwx
        have HBx := hide hBx
        clear hBx
        have x0 : wx.cell? ⟨b, 0, none⟩ = some (.slice A z.L.length c) := hbx.cell 0
        have x1 : wx.cell? ⟨b, 1, none⟩ = some (.int .i64 z.size) := hbx.cell 1
        have x3 : wx.cell? ⟨b, 3, none⟩ = some (.int .i64 z.state) := hbx.cell 3
        go_upto_region 6 with (go_at_call 90; refine (failed_any _ _ _ x3).mono ?_; rintro e w' ⟨rfl, rfl⟩)
        have hS2 : Hid ((wx.drew.alloc (.cells x.cs.toArray 34)).cell? ⟨b, 0, none⟩ = some (.slice A z.L.length c) ∧ (wx.drew.alloc (.cells x.cs.toArray 34)).rangeAt w.heap.size 0 x.cs) :=
          hide ⟨(World.cell?_alloc_lt wx.drew _ ⟨b, 0, none⟩ hbx.lt).trans x0, World.rangeAt_alloc ((World.rangeAt_drew wx _ _ _).2 hra) _⟩
        have hownd := hide (hownx.drew.alloc (.cells x.cs.toArray 34))
        have hsrc := hide (own_sec x (heap_alloc_new wx.drew (.cells x.cs.toArray 34)))
        refine Reg.wp_region_reads (fun w' => w'.cell? ⟨b, 0, none⟩ = some (.slice A z.L.length c) ∧ w'.rangeAt w.heap.size 0 x.cs) 6 8 (by decide +kernel) (by decide +kernel) ⟨x0, hra⟩ ?_
        simp only [List.take_succ_cons, List.take_zero, List.drop_succ_cons, List.drop_zero]
        iterate 5
          apply Reg.wpReads_step rfl
          · intro w' hS
            obtain ⟨s1, s2⟩ := hS
            go_simp
            first | done | rfl
          intro K hK
          go_simp
          refine hK _ ?_
          clear hK K
        refine Reg.wpReads_load rfl 34 (.tmp 3) rfl w.heap.size 0 rfl x.cs _ (fun w' h => h.2) Try.underlying34 rfl (sizeSec x) (fun K hK => ?_)
        go_simp
        refine hK _ ?_
        clear hK K
        refine Reg.wpReads_nil ?_
        refine Reg.wpTail_step rfl (fun K hK => ?_)
        refine wp_build1 x (.tmp 22) rfl rfl ?_
        go_simp
        refine hK _ _ (fun _ => hS2.out) ?_
        clear hK K
        refine Reg.wpTail_step rfl (fun K hK => ?_)
        refine wp_append_src _ (.tmp 21) (.tmp 23) 47 rfl 0 34 i0 _ 64 64 Try.underlying47 hi hz0 hz1 hz2 rfl (by decide) (.slice A z.L.length c) z.L.length (z.L.flatMap Sec.cs) rfl hownd.out _ 1 1 x.cs rfl hsrc.out x.one (by unfold maxLen; omega) (by omega) (Nat.zero_le _) ?_
        intro v' w1 hown' hgrow hat
        obtain ⟨A', c', rfl⟩ := own_form hown'
        go_simp
        have hb1 : Blk w1 b 131 #[.slice A z.L.length c, .int .i64 z.size, .int .i64 (z.safe : Int), .int .i64 z.state, .bool z.fin] := (hbx.drew.alloc _).grown hgrow (fun e => (hg b e.symm).2 rfl)
        have hBx1 : Blk w1 w.heap.size 34 x.cs.toArray := (HBx.out.drew.alloc _).grown hgrow (fun e => by have := hlt _ (hg _ e.symm).1; omega)
        have hM1 : Mods F w w1 := (hm0.drew.alloc _).grown hgrow (fun k hk => .inl (hg k hk).1)
        refine hK _ _ (fun _ => ⟨hb1.cell 0, range_blk x hBx1⟩) ?_
        clear hK K hBx1
        refine Reg.wpTail_list _ _ _ _ (by omega) ?_
        have d0 : w1.cell? ⟨b, 0, none⟩ = some (.slice A z.L.length c) := hb1.cell 0
        have d1 : w1.cell? ⟨b, 1, none⟩ = some (.int .i64 z.size) := hb1.cell 1
        have d3 : w1.cell? ⟨b, 3, none⟩ = some (.int .i64 z.state) := hb1.cell 3
        have f0 := hb1.frozen 0
        have f3 := hb1.frozen 3
        have hat' : Hid ((Value.slice A' (z.L.length + 1) c').ownBlock = (Value.slice A z.L.length c).ownBlock ∨ (Value.slice A' (z.L.length + 1) c').ownBlock = some (wx.heap.size + 1)) := by
          refine hide (hat.imp id (fun h => ?_))
          rw [h]
          exact congrArg some (World.size_alloc wx _)
        clear hat
        go_wp2_with fail
        refine NoPanic.normal ?_
        go_wp2_with fail
        go_quiet (fail)
        go_wp2
        go_ret2
        rw [hfin.out]
        have hne : (Value.slice A' (z.L.length + 1) c').ownBlock ≠ some b := fun e => by
          rcases hat'.out with h | h <;> rw [h] at e
          · exact (hg b e).2 rfl
          · have := Hs.out; simp at e; omega
        refine ⟨rfl, ?_⟩
        refine SDid.mk' (A := A') (c := c') (z' := { z with L := z.L ++ [x], state := 1 }) ?_ ?_ hFb ?_ ?_ hlt
        · simp only [List.length_append, List.length_cons, List.length_nil]
          exact ((hb1.set_ 0 _).set_ 3 _).drewN _
        · repeat (first | exact hM1 | apply Mods.drewN | refine Mods.setCell ?_ (.inl hFb) _)
        · simp only [List.length_append, List.length_cons, List.length_nil, flat_snoc]
          repeat (first | exact hown' | exact own_setCell (by assumption) hne _ | refine own_setCell ?_ hne _ | refine own_drewN ?_ _)
        · intro g hg'
          simp only [List.length_append, List.length_cons, List.length_nil] at hg'
          have hg2 : (Value.slice A' (z.L.length + 1) c').ownBlock = some g := hg'
          rcases hat'.out with h | h <;> rw [h] at hg2
          · exact .inl (hg g hg2)
          · right; have := Hs.out; simp at hg2; omega
  · have ef : (failedOf z.state != 0) = true := by simp [hf]
    have hfin := hide (Zn.append_failed x hf)
    clear hf
    go_enter Try.func61, Try.ntmps61
    go_wp2_with fail
    have hm00 : Hid (Mods (fun _ => False) w (w.alloc (.cells x.cs.toArray 34))) := hide ((Mods.refl _ w).alloc _)
    have hBx := Blk.new w 34 x.cs.toArray
    obtain ⟨wx, hwx⟩ : ∃ wx, wx = w.alloc (.cells x.cs.toArray 34) := ⟨_, rfl⟩
    rw [← hwx] at hB0 hbx hra hownx hm0 Hs hm00 hBx ⊢
    clear hwx
    have HBx := hide hBx
    clear hBx
    have x0 : wx.cell? ⟨b, 0, none⟩ = some (.slice A z.L.length c) := hbx.cell 0
    have x1 : wx.cell? ⟨b, 1, none⟩ = some (.int .i64 z.size) := hbx.cell 1
    have x3 : wx.cell? ⟨b, 3, none⟩ = some (.int .i64 z.state) := hbx.cell 3
    go_wp2_with (go_at_call 90; refine (failed_any _ _ _ x3).mono ?_; rintro e w' ⟨rfl, rfl⟩)
    go_ret2
    rw [hfin.out]
    exact ⟨rfl, F, hz'.out.mods hm00.out (fun k hk hk2 => hk2.elim), hm0, fun k hk => .inl hk⟩
end Go.Proofs.Ytdinbhanekpjoaa.ZD
