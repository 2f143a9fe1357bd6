/-
  The zone's methods at int: what each call answers, and what it leaves in memory.
-/
import Derived.Test.YtahlphclighccaaRows
import Derived.Test.YtahlphclighccaaZKit
import Derived.Deep.QuietTactic
import Derived.BigQuiet
import Derived.Deep.RegionLaw
namespace Go.Proofs.Ytahlphclighccaa.ZI
open Go.RowKit

abbrev T : TypeId := 58
abbrev E : TypeId := 3
theorem ret_int {k : IntKind} {a b : Int} (h : a = b) : Ending.returned (.int k a) = .returned (.int k b) := by rw [h]
abbrev At := ZoneAt (α := Int) 58 3 (Value.int .i64)
abbrev Does := Did (α := Int) 58 3 (Value.int .i64)

theorem infoE : (Try.prog.info? 3).map (fun i => (i.zero, i.size, i.bytes)) = some (some (.int .i64 0), 1, 8) := by kernel_rfl

set_option maxHeartbeats 400000 in
theorem failed_any (b : Nat) (s : Int) (w : World) (hc : w.cell? ⟨b, 3, none⟩ = some (.int .i64 s)) :
    Calls Try.prog 29 #[.pointer (some ⟨b, 0, none⟩)] w fun e w' => e = .returned (.int .i64 (failedOf s)) ∧ w = w' := by
  by_cases h4 : s = 4
  · subst h4
    go_enter Try.func29, Try.ntmps29
    go_wp2
    go_ret
    exact ⟨rfl, rfl⟩
  · by_cases h3 : s = 3
    · subst h3
      go_enter Try.func29, Try.ntmps29
      go_wp2
      go_ret
      exact ⟨rfl, rfl⟩
    · have e4 : (s == 4) = false := by simpa using h4
      have e3 : (s == 3) = false := by simpa using h3
      have e0 := hide (failedOf_zero h4 h3)
      go_enter Try.func29, Try.ntmps29
      go_wp2
      go_ret
      exact ⟨ret_int e0.out.symm, rfl⟩

set_option maxHeartbeats 400000 in
theorem state_any (b : Nat) (s : Int) (w : World) (hc : w.cell? ⟨b, 3, none⟩ = some (.int .i64 s)) :
    Calls Try.prog 25 #[.pointer (some ⟨b, 0, none⟩)] w fun e w' => e = .returned (.int .i64 s) ∧ w = w' := by
  go_enter Try.func25, Try.ntmps25
  go_wp2
  go_ret
  exact ⟨rfl, rfl⟩

set_option maxHeartbeats 400000 in
theorem len_any (b : Nat) (A : Option Addr) (n c : Nat) (w : World) (hc : w.cell? ⟨b, 0, none⟩ = some (.slice A n c)) :
    Calls Try.prog 21 #[.pointer (some ⟨b, 0, none⟩)] w fun e w' => e = .returned (.int .i64 (n : Int)) ∧ w = w' := by
  go_enter Try.func21, Try.ntmps21
  go_wp2
  go_ret
  exact ⟨rfl, rfl⟩

set_option maxHeartbeats 400000 in
theorem append_any (z : Zn Int) (x : Int) (b : Nat) (w : World) (F : Nat → Prop) (hz : At w b z F) (hn : z.L.length < 65536) :
    Calls Try.prog 16 #[.pointer (some ⟨b, 0, none⟩), .int .i64 x] w fun e w' =>
      e = .returned (.tuple #[.int .i64 (z.append x).2.1, .int .i64 (z.append x).2.2]) ∧ Does w w' b (z.append x).1 F := by
  have hz' := hide hz
  obtain ⟨A, c, hb, hFb, hown, hg, hlt⟩ := hz
  have c0 : w.cell? ⟨b, 0, none⟩ = _ := hb.cell 0
  have c1 : w.cell? ⟨b, 1, none⟩ = _ := hb.cell 1
  have c3 : w.cell? ⟨b, 3, none⟩ = _ := hb.cell 3
  simp only [List.getElem?_toArray, List.getElem?_cons_zero, List.getElem?_cons_succ] at c0 c1 c3
  by_cases hf : failedOf z.state = 0
  · have ef : (failedOf z.state != 0) = false := by simp [hf]
    by_cases h2 : z.state = 2
    · have e2 : (z.state == 2) = true := by simp [h2]
      have hfin := hide (Zn.append_full x hf h2)
      clear hf h2
      go_enter Try.func16, Try.ntmps16
      go_wp2_with (go_at_call 29; refine (failed_any _ _ _ c3).mono ?_; rintro e w' ⟨rfl, rfl⟩)
      go_ret2
      rw [hfin.out]
      exact ⟨rfl, Did.same hz'.out⟩
    · have e2 : (z.state == 2) = false := by simp [h2]
      obtain ⟨i0, hi, hz0, hz1, hz2⟩ := info_parts infoE
      by_cases hl : ((z.L.length + 1 : Nat) : Int) = z.size
      · have el : (((z.L.length + 1 : Nat) : Int) == z.size) = true := beq_iff_eq.2 hl
        have el' : ((z.L.length : Int) + 1 == z.size) = true := beq_iff_eq.2 (by omega)
        have hfin := hide (Zn.append_last x hf h2 hl)
        clear hf h2 hl
        go_enter Try.func16, Try.ntmps16
        go_wp2_with (first | (go_at_call 29; refine (failed_any _ _ _ c3).mono ?_; rintro e w' ⟨rfl, rfl⟩) | (at_builtin; refine wpList_append_own_at _ rfl _ _ 39 rfl 0 3 i0 _ 1 8 Try.underlying39 hi hz0 hz1 hz2 rfl (by decide) _ _ _ rfl (hown.alloc _) ⟨w.heap.size, 0, none⟩ 1 1 [.int .i64 x] rfl rfl (cell_one_new _ _ _) (by simp [Value.oneCell']) (by unfold maxLen; omega) (by omega) (by simp) ?_; intro v' w1 hown' hgrow hnil hat; obtain ⟨A', c', rfl⟩ := own_form hown'; have hb1 := (hb.alloc (.cells #[.int .i64 x] 3)).grown hgrow (fun e => (hg b e.symm).2 rfl); have d0 := hb1.cell 0; have d1 := hb1.cell 1; have d3 := hb1.cell 3; simp only [List.getElem?_toArray, List.getElem?_cons_zero, List.getElem?_cons_succ] at d0 d1 d3; have f0 := hb1.frozen 0; have f3 := hb1.frozen 3))
        go_quiet (fail)
        go_wp2
        go_ret2
        rw [hfin.out]
        have hne : (Value.slice A' (z.L.length + 1) c').ownBlock ≠ some b := fun e => by
          rcases hat with h | h <;> rw [h] at e
          · exact (hg b e).2 rfl
          · have := hb.lt; simp at e; omega
        refine ⟨rfl, ?_⟩
        refine Did.mk' (A := A') (c := c') (z' := { z with L := z.L ++ [x], state := 2 }) ?_ ?_ hFb ?_ ?_ hlt
        · simp only [List.length_append, List.length_cons, List.length_nil]
          exact (((hb1.set_ 0 _).set_ 3 _).drewN _).set_ 3 _
        · exact Did.close_append hg hgrow hFb _ (fun hM => by repeat (first | exact hM | apply Mods.drewN | refine Mods.setCell ?_ (.inl hFb) _))
        · simp only [List.length_append, List.length_cons, List.length_nil, List.map_append, List.map_cons, List.map_nil]
          repeat (first | exact hown' | exact own_setCell (by assumption) hne _ | refine own_setCell ?_ hne _ | refine own_drewN ?_ _)
        · intro g hg'
          simp only [List.length_append, List.length_cons, List.length_nil] at hg'
          have hg2 : (Value.slice A' (z.L.length + 1) c').ownBlock = some g := hg'
          rcases hat with h | h <;> rw [h] at hg2
          · exact .inl (hg g hg2)
          · right; simp at hg2; omega
      · have el : (((z.L.length + 1 : Nat) : Int) == z.size) = false := beq_eq_false_iff_ne.2 hl
        have el' : ((z.L.length : Int) + 1 == z.size) = false := beq_eq_false_iff_ne.2 (by omega)
        have hfin := hide (Zn.append_more x hf h2 hl)
        clear hf h2 hl
        go_enter Try.func16, Try.ntmps16
        go_wp2_with (first | (go_at_call 29; refine (failed_any _ _ _ c3).mono ?_; rintro e w' ⟨rfl, rfl⟩) | (at_builtin; refine wpList_append_own_at _ rfl _ _ 39 rfl 0 3 i0 _ 1 8 Try.underlying39 hi hz0 hz1 hz2 rfl (by decide) _ _ _ rfl (hown.alloc _) ⟨w.heap.size, 0, none⟩ 1 1 [.int .i64 x] rfl rfl (cell_one_new _ _ _) (by simp [Value.oneCell']) (by unfold maxLen; omega) (by omega) (by simp) ?_; intro v' w1 hown' hgrow hnil hat; obtain ⟨A', c', rfl⟩ := own_form hown'; have hb1 := (hb.alloc (.cells #[.int .i64 x] 3)).grown hgrow (fun e => (hg b e.symm).2 rfl); have d0 := hb1.cell 0; have d1 := hb1.cell 1; have d3 := hb1.cell 3; simp only [List.getElem?_toArray, List.getElem?_cons_zero, List.getElem?_cons_succ] at d0 d1 d3; have f0 := hb1.frozen 0; have f3 := hb1.frozen 3))
        go_quiet (fail)
        go_wp2
        go_ret2
        rw [hfin.out]
        have hne : (Value.slice A' (z.L.length + 1) c').ownBlock ≠ some b := fun e => by
          rcases hat with h | h <;> rw [h] at e
          · exact (hg b e).2 rfl
          · have := hb.lt; simp at e; omega
        refine ⟨rfl, ?_⟩
        refine Did.mk' (A := A') (c := c') (z' := { z with L := z.L ++ [x], state := 1 }) ?_ ?_ hFb ?_ ?_ hlt
        · simp only [List.length_append, List.length_cons, List.length_nil]
          exact ((hb1.set_ 0 _).set_ 3 _).drewN _
        · exact Did.close_append hg hgrow hFb _ (fun hM => by repeat (first | exact hM | apply Mods.drewN | refine Mods.setCell ?_ (.inl hFb) _))
        · simp only [List.length_append, List.length_cons, List.length_nil, List.map_append, List.map_cons, List.map_nil]
          repeat (first | exact hown' | exact own_setCell (by assumption) hne _ | refine own_setCell ?_ hne _ | refine own_drewN ?_ _)
        · intro g hg'
          simp only [List.length_append, List.length_cons, List.length_nil] at hg'
          have hg2 : (Value.slice A' (z.L.length + 1) c').ownBlock = some g := hg'
          rcases hat with h | h <;> rw [h] at hg2
          · exact .inl (hg g hg2)
          · right; simp at hg2; omega
  · have ef : (failedOf z.state != 0) = true := by simp [hf]
    have hfin := hide (Zn.append_failed x hf)
    clear hf
    go_enter Try.func16, Try.ntmps16
    go_wp2_with (go_at_call 29; refine (failed_any _ _ _ c3).mono ?_; rintro e w' ⟨rfl, rfl⟩)
    go_ret2
    rw [hfin.out]
    exact ⟨rfl, Did.same hz'.out⟩

theorem row_cell {b : Nat} {z : Zn Int} {w : World} {F : Nat → Prop} (hz : At w b z F) (k : Nat) (hk : k < z.L.length) :
    ∃ g c, w.cell? ⟨b, 0, none⟩ = some (.slice (some ⟨g, 0, none⟩) z.L.length c) ∧ z.L.length ≤ c ∧ w.cell? ⟨g, k, none⟩ = some ((Value.int .i64) z.L[k]) := by
  obtain ⟨A, c, hb, _, hown, _⟩ := hz
  rcases hown.2 with ⟨h, h0⟩ | ⟨g, cap, cur, h, _, hh, hc, _, _, ht⟩
  · omega
  · simp only [Value.slice.injEq, true_and] at h
    obtain ⟨rfl, rfl⟩ := h
    refine ⟨g, c, hb.cell 0, hc, ?_⟩
    have := hown.cells (g := g) rfl k ((Value.int .i64) z.L[k]) (by simp [hk])
    simpa [Addr.add_lit] using this

set_option maxHeartbeats 400000 in
theorem read_any (z : Zn Int) (off : Int) (b : Nat) (w : World) (F : Nat → Prop) (hz : At w b z F) (_hn : z.L.length < 65536) :
    Calls Try.prog 26 #[.pointer (some ⟨b, 0, none⟩), .int .i64 off] w fun e w' =>
      e = .returned (.tuple #[(Value.int .i64) (z.read (0) off).1, .int .i64 (z.read (0) off).2]) ∧ w = w' := by
  have hz' := hide hz
  obtain ⟨A, c, hb, hFb, hown, hg, hlt⟩ := hz
  have c0 : w.cell? ⟨b, 0, none⟩ = _ := hb.cell 0
  have c3 : w.cell? ⟨b, 3, none⟩ = _ := hb.cell 3
  simp only [List.getElem?_toArray, List.getElem?_cons_zero, List.getElem?_cons_succ] at c0 c3
  by_cases h4 : z.state = 4
  · have e4 : (z.state == 4) = true := by simp [h4]
    have hfin := hide (Zn.read_off (0) off h4)
    clear h4
    go_enter Try.func26, Try.ntmps26
    go_wp2
    go_ret2
    rw [hfin.out]
    exact ⟨rfl, rfl⟩
  · have e4 : (z.state == 4) = false := by simp [h4]
    by_cases hlo : off < 0
    · have hfin := hide (Zn.read_out (0) off h4 (.inl hlo))
      clear h4
      go_enter Try.func26, Try.ntmps26
      go_wp2
      go_ret2
      rw [hfin.out]
      exact ⟨rfl, rfl⟩
    · by_cases hhi : (z.L.length : Int) ≤ off
      · have hfin := hide (Zn.read_out (0) off h4 (.inr hhi))
        clear h4
        go_enter Try.func26, Try.ntmps26
        go_wp2
        go_ret2
        rw [hfin.out]
        exact ⟨rfl, rfl⟩
      · obtain ⟨k, rfl⟩ := Int.eq_ofNat_of_zero_le (Int.not_lt.1 hlo)
        have hk : k < z.L.length := by omega
        obtain ⟨g, c', c0', hc', ck⟩ := row_cell hz'.out k hk
        have hfin := hide (Zn.read_in (0) k h4 hk)
        clear h4 c0
        go_enter Try.func26, Try.ntmps26
        go_wp2
        go_ret2
        rw [hfin.out]
        exact ⟨rfl, rfl⟩

/-- A call has laid a new zone. -/
def Made (w w' : World) (b : Nat) (z : Zn Int) : Prop := ∃ F : Nat → Prop, At w' b z F ∧ Mods (fun _ => False) w w' ∧ ∀ k, F k → w.heap.size ≤ k

set_option maxHeartbeats 400000 in
theorem new_no (size : Int) (w : World) (h : size < 1 ∨ 64 < size) :
    Calls Try.prog 14 #[.int .i64 size] w fun e w' => e = .returned (.tuple #[.pointer none, .int .i64 13]) ∧ w = w' := by
  by_cases h1 : size < 1
  · clear h
    go_enter Try.func14, Try.ntmps14
    go_wp2
    go_ret2
    exact ⟨rfl, rfl⟩
  · have h2 : 64 < size := by omega
    clear h
    go_enter Try.func14, Try.ntmps14
    go_wp2
    go_ret2
    exact ⟨rfl, rfl⟩

set_option maxHeartbeats 400000 in
theorem new_any (size : Int) (w : World) (h1 : 1 ≤ size) (h2 : size ≤ 64) :
    Calls Try.prog 14 #[.int .i64 size] w fun e w' => e = .returned (.tuple #[.pointer (some ⟨w.heap.size, 0, none⟩), .int .i64 0]) ∧ Made w w' w.heap.size (Zn.new size) := by
  go_enter Try.func14, Try.ntmps14
  go_wp2
  go_ret2
  refine ⟨rfl, fun k => k = w.heap.size, ⟨none, 0, Blk.new _ _ _, rfl, World.ownsRow_nil _ _ _ _, fun g hg => by simp [Value.ownBlock] at hg, fun k hk => by subst hk; simp⟩, (Mods.refl _ _).alloc _, fun k hk => by omega⟩

set_option maxHeartbeats 400000 in
theorem reset_any (z : Zn Int) (b : Nat) (w : World) (F : Nat → Prop) (hz : At w b z F) :
    Calls Try.prog 17 #[.pointer (some ⟨b, 0, none⟩)] w fun e w' => e = .returned (.int .i64 z.reset.2) ∧ Does w w' b z.reset.1 F := by
  have hz' := hide hz
  obtain ⟨A, c, hb, hFb, hown, hg, hlt⟩ := hz
  have c0 : w.cell? ⟨b, 0, none⟩ = _ := hb.cell 0
  have c2 : w.cell? ⟨b, 2, none⟩ = _ := hb.cell 2
  have c3 : w.cell? ⟨b, 3, none⟩ = _ := hb.cell 3
  have c4 : w.cell? ⟨b, 4, none⟩ = _ := hb.cell 4
  simp only [List.getElem?_toArray, List.getElem?_cons_zero, List.getElem?_cons_succ] at c0 c2 c3 c4
  have f0 := hb.frozen 0
  have f2 := hb.frozen 2
  have f3 := hb.frozen 3
  have f4 := hb.frozen 4
  by_cases hf : failedOf z.state = 0
  · have ef : (failedOf z.state != 0) = false := by simp [hf]
    have hfin := hide (Zn.reset_ok hf)
    clear hf
    go_enter Try.func17, Try.ntmps17
    go_wp2_with (go_at_call 29; refine (failed_any _ _ _ c3).mono ?_; rintro e w' ⟨rfl, rfl⟩)
    go_ret
    rw [hfin.out]
    refine ⟨rfl, ?_⟩
    refine Did.mk' (A := none) (c := 0) (z' := { L := [], size := z.size, safe := 0, state := 0, fin := false }) ?_ ?_ hFb ?_ ?_ hlt
    · exact (((hb.set_ 0 _).set_ 2 _).set_ 3 _).set_ 4 _
    · exact ((((Mods.refl F w).setCell (.inl hFb) _).setCell (.inl hFb) _).setCell (.inl hFb) _).setCell (.inl hFb) _
    · exact World.ownsRow_nil _ _ _ _
    · intro g hg'
      simp [Value.ownBlock] at hg'
  · have ef : (failedOf z.state != 0) = true := by simp [hf]
    have hfin := hide (Zn.reset_failed hf)
    clear hf
    go_enter Try.func17, Try.ntmps17
    go_wp2_with (go_at_call 29; refine (failed_any _ _ _ c3).mono ?_; rintro e w' ⟨rfl, rfl⟩)
    go_ret
    rw [hfin.out]
    exact ⟨rfl, Did.same hz'.out⟩

theorem Made.below {w w' : World} {b : Nat} {z : Zn Int} (h : Made w w' b z) : ∃ F : Nat → Prop, At w' b z F ∧ Below w.heap.size w w' ∧ ∀ k, F k → w.heap.size ≤ k := by
  obtain ⟨F, hz, hm, hf⟩ := h
  exact ⟨F, hz, hm.below (Nat.le_refl _) (fun _ h => h.elim), hf⟩

set_option maxHeartbeats 400000 in
theorem safe_any (b s : Nat) (w : World) (hc : w.cell? ⟨b, 2, none⟩ = some (.int .i64 (s : Int))) :
    Calls Try.prog 15 #[.pointer (some ⟨b, 0, none⟩)] w fun e w' => e = .returned (.int .i64 (s : Int)) ∧ w = w' := by
  go_enter Try.func15, Try.ntmps15
  go_wp2
  go_ret
  exact ⟨rfl, rfl⟩

set_option maxHeartbeats 400000 in
theorem finish_any (z : Zn Int) (b : Nat) (w : World) (F : Nat → Prop) (hz : At w b z F) :
    Calls Try.prog 18 #[.pointer (some ⟨b, 0, none⟩)] w fun e w' => e = .returned (.int .i64 z.finish.2) ∧ Does w w' b z.finish.1 F := by
  have hz' := hide hz
  obtain ⟨A, c, hb, hFb, hown, hg, hlt⟩ := hz
  have c3 : w.cell? ⟨b, 3, none⟩ = _ := hb.cell 3
  have c4 : w.cell? ⟨b, 4, none⟩ = _ := hb.cell 4
  simp only [List.getElem?_toArray, List.getElem?_cons_zero, List.getElem?_cons_succ] at c3 c4
  have f3 := hb.frozen 3
  have f4 := hb.frozen 4
  by_cases hf : failedOf z.state = 0
  · have ef : (failedOf z.state != 0) = false := by simp [hf]
    have hfin := hide (Zn.finish_ok hf)
    clear hf
    go_enter Try.func18, Try.ntmps18
    go_wp2_with (go_at_call 29; refine (failed_any _ _ _ c3).mono ?_; rintro e w' ⟨rfl, rfl⟩)
    go_ret
    rw [hfin.out]
    refine ⟨rfl, ?_⟩
    refine Did.mk' (A := A) (c := c) (z' := { z with state := 2, fin := true }) ?_ ?_ hFb ?_ (fun g hg' => .inl (hg g hg')) hlt
    · exact (hb.set_ 3 _).set_ 4 _
    · exact ((Mods.refl F w).setCell (.inl hFb) _).setCell (.inl hFb) _
    · exact own_setCell (own_setCell hown (fun e => (hg b e).2 rfl) _) (fun e => (hg b e).2 rfl) _
  · have ef : (failedOf z.state != 0) = true := by simp [hf]
    have hfin := hide (Zn.finish_failed hf)
    clear hf
    go_enter Try.func18, Try.ntmps18
    go_wp2_with (go_at_call 29; refine (failed_any _ _ _ c3).mono ?_; rintro e w' ⟨rfl, rfl⟩)
    go_ret
    rw [hfin.out]
    exact ⟨rfl, Did.same hz'.out⟩

set_option maxHeartbeats 400000 in
theorem flush_any (z : Zn Int) (b : Nat) (w : World) (F : Nat → Prop) (hz : At w b z F) :
    Calls Try.prog 19 #[.pointer (some ⟨b, 0, none⟩)] w fun e w' => e = .returned (.tuple #[]) ∧ Does w w' b z.flush F := by
  obtain ⟨A, c, hb, hFb, hown, hg, hlt⟩ := hz
  have c0 : w.cell? ⟨b, 0, none⟩ = _ := hb.cell 0
  have c2 : w.cell? ⟨b, 2, none⟩ = _ := hb.cell 2
  simp only [List.getElem?_toArray, List.getElem?_cons_zero, List.getElem?_cons_succ] at c0 c2
  have f2 := hb.frozen 2
  go_enter Try.func19, Try.ntmps19
  go_wp2
  go_end0
  refine ⟨rfl, ?_⟩
  refine Did.mk' (A := A) (c := c) (z' := z.flush) ?_ ?_ hFb ?_ (fun g hg' => .inl (hg g hg')) hlt
  · exact hb.set_ 2 _
  · exact (Mods.refl F w).setCell (.inl hFb) _
  · exact own_setCell hown (fun e => (hg b e).2 rfl) _

set_option maxHeartbeats 400000 in
theorem fail_any (z : Zn Int) (s : Int) (b : Nat) (w : World) (F : Nat → Prop) (hz : At w b z F) :
    Calls Try.prog 22 #[.pointer (some ⟨b, 0, none⟩), .int .i64 s] w fun e w' => e = .returned (.tuple #[]) ∧ Does w w' b (z.fail s) F := by
  have hz' := hide hz
  obtain ⟨A, c, hb, hFb, hown, hg, hlt⟩ := hz
  have c3 : w.cell? ⟨b, 3, none⟩ = _ := hb.cell 3
  simp only [List.getElem?_toArray, List.getElem?_cons_zero, List.getElem?_cons_succ] at c3
  have f3 := hb.frozen 3
  have yes : (s = 4 ∨ (s = 3 ∧ z.state ≠ 4)) → Hid (z.fail s = { z with state := s }) := fun h => hide (by rw [Zn.fail, if_pos h])
  have no : ¬ (s = 4 ∨ (s = 3 ∧ z.state ≠ 4)) → Hid (z.fail s = z) := fun h => hide (by rw [Zn.fail, if_neg h])
  by_cases h4 : s = 4
  · have hfin := yes (.inl h4)
    have e4 : (s == 4) = true := by simp [h4]
    clear h4 yes no
    go_enter Try.func22, Try.ntmps22
    go_wp2
    go_end0
    rw [hfin.out]
    refine ⟨rfl, ?_⟩
    refine Did.mk' (A := A) (c := c) (z' := { z with state := s }) ?_ ?_ hFb ?_ (fun g hg' => .inl (hg g hg')) hlt
    · exact hb.set_ 3 _
    · exact (Mods.refl F w).setCell (.inl hFb) _
    · exact own_setCell hown (fun e => (hg b e).2 rfl) _
  · have e4 : (s == 4) = false := by simp [h4]
    by_cases h3 : s = 3
    · have e3 : (s == 3) = true := by simp [h3]
      by_cases hs : z.state = 4
      · have es : (z.state != 4) = false := by simp [hs]
        have hfin := no (by omega)
        clear h4 h3 hs yes no
        go_enter Try.func22, Try.ntmps22
        go_wp2
        go_end0
        rw [hfin.out]
        exact ⟨rfl, Did.same hz'.out⟩
      · have es : (z.state != 4) = true := by simp [hs]
        have hfin := yes (.inr ⟨h3, hs⟩)
        clear h4 h3 hs yes no
        go_enter Try.func22, Try.ntmps22
        go_wp2
        go_end0
        rw [hfin.out]
        refine ⟨rfl, ?_⟩
        refine Did.mk' (A := A) (c := c) (z' := { z with state := s }) ?_ ?_ hFb ?_ (fun g hg' => .inl (hg g hg')) hlt
        · exact hb.set_ 3 _
        · exact (Mods.refl F w).setCell (.inl hFb) _
        · exact own_setCell hown (fun e => (hg b e).2 rfl) _
    · have e3 : (s == 3) = false := by simp [h3]
      have hfin := no (by omega)
      clear h4 h3 yes no
      go_enter Try.func22, Try.ntmps22
      go_wp2
      go_end0
      rw [hfin.out]
      exact ⟨rfl, Did.same hz'.out⟩

/-- slices.Clone: the same cells in a row of the call's own. -/
theorem clone_any (A : Option Addr) (n cap : Nat) (xs : List Int) (hx : xs.length = n) (w : World) (hn : n < 65536) (hA : A = none → n = 0)
    (hc : ∀ ad, A = some ad → ∀ j u, (xs.map (Value.int .i64))[j]? = some u → w.cell? (ad.add j) = some u) :
    Calls Try.prog 30 #[.slice A n cap] w fun e w' => ∃ A' c', e = .returned (.slice A' n c') ∧ w'.ownsRow w.heap.size 3 1 (.slice A' n c') n (xs.map (Value.int .i64)) ∧ Below w.heap.size w w' := by
  obtain ⟨i0, hi, hz0, hz1, hz2⟩ := info_parts infoE
  cases A with
  | none =>
    obtain rfl := hA rfl
    have hxs : xs = [] := List.eq_nil_of_length_eq_zero hx
    subst hxs
    have hnil := fun w => Lib.run_eql_slice_nil (P := Try.prog) w 39 3 none 0 cap 0 0 Try.underlying39
    go_enter Try.func30, Try.ntmps30
    go_wp2
    go_ret
    exact ⟨none, 0, rfl, World.ownsRow_nil _ _ _ _, Below.refl _ _⟩
  | some ad =>
    have hnil := fun w => Lib.run_eql_slice_nil (P := Try.prog) w 39 3 (some ad) n cap 0 0 Try.underlying39
    have h1 : ∀ u ∈ xs.map (Value.int .i64), u.oneCell' = true := fun u hu => by obtain ⟨y, _, rfl⟩ := List.mem_map.1 hu; rfl
    have hl : (xs.map (Value.int .i64)).length = n * 1 := by simp [hx]
    have hc' := hc ad rfl
    have Hc := hide hc'
    have Hl := hide hl
    have H1 := hide h1
    clear hc hc' hl h1 hA hx
    go_enter Try.func30, Try.ntmps30
    go_wp2_with (at_builtin; refine wpList_append_own _ rfl _ _ 39 rfl w.heap.size 3 i0 _ 1 8 Try.underlying39 hi hz0 hz1 hz2 rfl (by decide) (.slice (some ⟨w.heap.size, 0, none⟩) 0 0) 0 [] rfl (World.ownsRow_made _ #[] 0 (Nat.le_refl _) (by simp) rfl) ad n cap (xs.map (Value.int .i64)) rfl Hl.out (fun j u hu => Lib.cell?_alloc_some _ (Hc.out j u hu)) H1.out (by unfold maxLen; omega) (by omega) (by simp) ?_; intro v' w1 hown' hgrow hnil2; obtain ⟨A', c', rfl⟩ := own_form hown')
    go_ret
    refine ⟨A', c', by simp, by simpa using hown', ?_⟩
    exact (((Below.refl _ w).alloc (Nat.le_refl _) _)).grown hgrow (by simp) (fun k hk => by simp [Value.ownBlock] at hk; omega)

end Go.Proofs.Ytahlphclighccaa.ZI
