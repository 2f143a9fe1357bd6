/-
  The zone's methods at string: what each call answers, and what it leaves in memory.
-/
import Derived.Test.YtahlphclighccaaRows
import Derived.Test.YtahlphclighccaaZKit
import Derived.Deep.QuietTactic
import Derived.BigQuiet
import Derived.Deep.RegionLaw
namespace Go.Proofs.Ytahlphclighccaa.ZS
open Go.RowKit

abbrev T : TypeId := 56
abbrev E : TypeId := 9
theorem ret_int {k : IntKind} {a b : Int} (h : a = b) : Ending.returned (.int k a) = .returned (.int k b) := by rw [h]
abbrev At := ZoneAt (α := ByteArray) 56 9 (Value.string)
abbrev Does := Did (α := ByteArray) 56 9 (Value.string)

theorem infoE : (Try.prog.info? 9).map (fun i => (i.zero, i.size, i.bytes)) = some (some (.string ⟨#[]⟩), 1, 16) := by kernel_rfl

set_option maxHeartbeats 400000 in
theorem failed_any (b : Nat) (s : Int) (w : World) (hc : w.cell? ⟨b, 3, none⟩ = some (.int .i64 s)) :
    Calls Try.prog 28 #[.pointer (some ⟨b, 0, none⟩)] w fun e w' => e = .returned (.int .i64 (failedOf s)) ∧ w = w' := by
  by_cases h4 : s = 4
  · subst h4
    go_enter Try.func28, Try.ntmps28
    go_wp2
    go_ret
    exact ⟨rfl, rfl⟩
  · by_cases h3 : s = 3
    · subst h3
      go_enter Try.func28, Try.ntmps28
      go_wp2
      go_ret
      exact ⟨rfl, rfl⟩
    · have e4 : (s == 4) = false := by simpa using h4
      have e3 : (s == 3) = false := by simpa using h3
      have e0 := hide (failedOf_zero h4 h3)
      go_enter Try.func28, Try.ntmps28
      go_wp2
      go_ret
      exact ⟨ret_int e0.out.symm, rfl⟩

set_option maxHeartbeats 400000 in
theorem state_any (b : Nat) (s : Int) (w : World) (hc : w.cell? ⟨b, 3, none⟩ = some (.int .i64 s)) :
    Calls Try.prog 11 #[.pointer (some ⟨b, 0, none⟩)] w fun e w' => e = .returned (.int .i64 s) ∧ w = w' := by
  go_enter Try.func11, Try.ntmps11
  go_wp2
  go_ret
  exact ⟨rfl, rfl⟩

set_option maxHeartbeats 400000 in
theorem len_any (b : Nat) (A : Option Addr) (n c : Nat) (w : World) (hc : w.cell? ⟨b, 0, none⟩ = some (.slice A n c)) :
    Calls Try.prog 13 #[.pointer (some ⟨b, 0, none⟩)] w fun e w' => e = .returned (.int .i64 (n : Int)) ∧ w = w' := by
  go_enter Try.func13, Try.ntmps13
  go_wp2
  go_ret
  exact ⟨rfl, rfl⟩

set_option maxHeartbeats 400000 in
theorem append_any (z : Zn ByteArray) (x : ByteArray) (b : Nat) (w : World) (F : Nat → Prop) (hz : At w b z F) (hn : z.L.length < 65536) :
    Calls Try.prog 9 #[.pointer (some ⟨b, 0, none⟩), .string x] w fun e w' =>
      e = .returned (.tuple #[.int .i64 (z.append x).2.1, .int .i64 (z.append x).2.2]) ∧ Does w w' b (z.append x).1 F := by
  have hz' := hide hz
  obtain ⟨A, c, hb, hFb, hown, hg, hlt⟩ := hz
  have c0 : w.cell? ⟨b, 0, none⟩ = _ := hb.cell 0
  have c1 : w.cell? ⟨b, 1, none⟩ = _ := hb.cell 1
  have c3 : w.cell? ⟨b, 3, none⟩ = _ := hb.cell 3
  simp only [List.getElem?_toArray, List.getElem?_cons_zero, List.getElem?_cons_succ] at c0 c1 c3
  by_cases hf : failedOf z.state = 0
  · have ef : (failedOf z.state != 0) = false := by simp [hf]
    by_cases h2 : z.state = 2
    · have e2 : (z.state == 2) = true := by simp [h2]
      have hfin := hide (Zn.append_full x hf h2)
      clear hf h2
      go_enter Try.func9, Try.ntmps9
      go_wp2_with (go_at_call 28; refine (failed_any _ _ _ c3).mono ?_; rintro e w' ⟨rfl, rfl⟩)
      go_ret2
      rw [hfin.out]
      exact ⟨rfl, Did.same hz'.out⟩
    · have e2 : (z.state == 2) = false := by simp [h2]
      obtain ⟨i0, hi, hz0, hz1, hz2⟩ := info_parts infoE
      by_cases hl : ((z.L.length + 1 : Nat) : Int) = z.size
      · have el : (((z.L.length + 1 : Nat) : Int) == z.size) = true := beq_iff_eq.2 hl
        have el' : ((z.L.length : Int) + 1 == z.size) = true := beq_iff_eq.2 (by omega)
        have hfin := hide (Zn.append_last x hf h2 hl)
        clear hf h2 hl
        go_enter Try.func9, Try.ntmps9
        go_wp2_with (first | (go_at_call 28; refine (failed_any _ _ _ c3).mono ?_; rintro e w' ⟨rfl, rfl⟩) | (at_builtin; refine wpList_append_own_at _ rfl _ _ 22 rfl 0 9 i0 _ 1 16 Try.underlying22 hi hz0 hz1 hz2 rfl (by decide) _ _ _ rfl (hown.alloc _) ⟨w.heap.size, 0, none⟩ 1 1 [.string x] rfl rfl (cell_one_new _ _ _) (by simp [Value.oneCell']) (by unfold maxLen; omega) (by omega) (by simp) ?_; intro v' w1 hown' hgrow hnil hat; obtain ⟨A', c', rfl⟩ := own_form hown'; have hb1 := (hb.alloc (.cells #[.string x] 9)).grown hgrow (fun e => (hg b e.symm).2 rfl); have d0 := hb1.cell 0; have d1 := hb1.cell 1; have d3 := hb1.cell 3; simp only [List.getElem?_toArray, List.getElem?_cons_zero, List.getElem?_cons_succ] at d0 d1 d3; have f0 := hb1.frozen 0; have f3 := hb1.frozen 3))
        go_quiet (fail)
        go_wp2
        go_ret2
        rw [hfin.out]
        have hne : (Value.slice A' (z.L.length + 1) c').ownBlock ≠ some b := fun e => by
          rcases hat with h | h <;> rw [h] at e
          · exact (hg b e).2 rfl
          · have := hb.lt; simp at e; omega
        refine ⟨rfl, ?_⟩
        refine Did.mk' (A := A') (c := c') (z' := { z with L := z.L ++ [x], state := 2 }) ?_ ?_ hFb ?_ ?_ hlt
        · simp only [List.length_append, List.length_cons, List.length_nil]
          exact (((hb1.set_ 0 _).set_ 3 _).drewN _).set_ 3 _
        · exact Did.close_append hg hgrow hFb _ (fun hM => by repeat (first | exact hM | apply Mods.drewN | refine Mods.setCell ?_ (.inl hFb) _))
        · simp only [List.length_append, List.length_cons, List.length_nil, List.map_append, List.map_cons, List.map_nil]
          repeat (first | exact hown' | exact own_setCell (by assumption) hne _ | refine own_setCell ?_ hne _ | refine own_drewN ?_ _)
        · intro g hg'
          simp only [List.length_append, List.length_cons, List.length_nil] at hg'
          have hg2 : (Value.slice A' (z.L.length + 1) c').ownBlock = some g := hg'
          rcases hat with h | h <;> rw [h] at hg2
          · exact .inl (hg g hg2)
          · right; simp at hg2; omega
      · have el : (((z.L.length + 1 : Nat) : Int) == z.size) = false := beq_eq_false_iff_ne.2 hl
        have el' : ((z.L.length : Int) + 1 == z.size) = false := beq_eq_false_iff_ne.2 (by omega)
        have hfin := hide (Zn.append_more x hf h2 hl)
        clear hf h2 hl
        go_enter Try.func9, Try.ntmps9
        go_wp2_with (first | (go_at_call 28; refine (failed_any _ _ _ c3).mono ?_; rintro e w' ⟨rfl, rfl⟩) | (at_builtin; refine wpList_append_own_at _ rfl _ _ 22 rfl 0 9 i0 _ 1 16 Try.underlying22 hi hz0 hz1 hz2 rfl (by decide) _ _ _ rfl (hown.alloc _) ⟨w.heap.size, 0, none⟩ 1 1 [.string x] rfl rfl (cell_one_new _ _ _) (by simp [Value.oneCell']) (by unfold maxLen; omega) (by omega) (by simp) ?_; intro v' w1 hown' hgrow hnil hat; obtain ⟨A', c', rfl⟩ := own_form hown'; have hb1 := (hb.alloc (.cells #[.string x] 9)).grown hgrow (fun e => (hg b e.symm).2 rfl); have d0 := hb1.cell 0; have d1 := hb1.cell 1; have d3 := hb1.cell 3; simp only [List.getElem?_toArray, List.getElem?_cons_zero, List.getElem?_cons_succ] at d0 d1 d3; have f0 := hb1.frozen 0; have f3 := hb1.frozen 3))
        go_quiet (fail)
        go_wp2
        go_ret2
        rw [hfin.out]
        have hne : (Value.slice A' (z.L.length + 1) c').ownBlock ≠ some b := fun e => by
          rcases hat with h | h <;> rw [h] at e
          · exact (hg b e).2 rfl
          · have := hb.lt; simp at e; omega
        refine ⟨rfl, ?_⟩
        refine Did.mk' (A := A') (c := c') (z' := { z with L := z.L ++ [x], state := 1 }) ?_ ?_ hFb ?_ ?_ hlt
        · simp only [List.length_append, List.length_cons, List.length_nil]
          exact ((hb1.set_ 0 _).set_ 3 _).drewN _
        · exact Did.close_append hg hgrow hFb _ (fun hM => by repeat (first | exact hM | apply Mods.drewN | refine Mods.setCell ?_ (.inl hFb) _))
        · simp only [List.length_append, List.length_cons, List.length_nil, List.map_append, List.map_cons, List.map_nil]
          repeat (first | exact hown' | exact own_setCell (by assumption) hne _ | refine own_setCell ?_ hne _ | refine own_drewN ?_ _)
        · intro g hg'
          simp only [List.length_append, List.length_cons, List.length_nil] at hg'
          have hg2 : (Value.slice A' (z.L.length + 1) c').ownBlock = some g := hg'
          rcases hat with h | h <;> rw [h] at hg2
          · exact .inl (hg g hg2)
          · right; simp at hg2; omega
  · have ef : (failedOf z.state != 0) = true := by simp [hf]
    have hfin := hide (Zn.append_failed x hf)
    clear hf
    go_enter Try.func9, Try.ntmps9
    go_wp2_with (go_at_call 28; refine (failed_any _ _ _ c3).mono ?_; rintro e w' ⟨rfl, rfl⟩)
    go_ret2
    rw [hfin.out]
    exact ⟨rfl, Did.same hz'.out⟩

theorem row_cell {b : Nat} {z : Zn ByteArray} {w : World} {F : Nat → Prop} (hz : At w b z F) (k : Nat) (hk : k < z.L.length) :
    ∃ g c, w.cell? ⟨b, 0, none⟩ = some (.slice (some ⟨g, 0, none⟩) z.L.length c) ∧ z.L.length ≤ c ∧ w.cell? ⟨g, k, none⟩ = some ((Value.string) z.L[k]) := by
  obtain ⟨A, c, hb, _, hown, _⟩ := hz
  rcases hown.2 with ⟨h, h0⟩ | ⟨g, cap, cur, h, _, hh, hc, _, _, ht⟩
  · omega
  · simp only [Value.slice.injEq, true_and] at h
    obtain ⟨rfl, rfl⟩ := h
    refine ⟨g, c, hb.cell 0, hc, ?_⟩
    have := hown.cells (g := g) rfl k ((Value.string) z.L[k]) (by simp [hk])
    simpa [Addr.add_lit] using this

set_option maxHeartbeats 400000 in
theorem read_any (z : Zn ByteArray) (off : Int) (b : Nat) (w : World) (F : Nat → Prop) (hz : At w b z F) (_hn : z.L.length < 65536) :
    Calls Try.prog 10 #[.pointer (some ⟨b, 0, none⟩), .int .i64 off] w fun e w' =>
      e = .returned (.tuple #[(Value.string) (z.read (⟨#[]⟩) off).1, .int .i64 (z.read (⟨#[]⟩) off).2]) ∧ w = w' := by
  have hz' := hide hz
  obtain ⟨A, c, hb, hFb, hown, hg, hlt⟩ := hz
  have c0 : w.cell? ⟨b, 0, none⟩ = _ := hb.cell 0
  have c3 : w.cell? ⟨b, 3, none⟩ = _ := hb.cell 3
  simp only [List.getElem?_toArray, List.getElem?_cons_zero, List.getElem?_cons_succ] at c0 c3
  by_cases h4 : z.state = 4
  · have e4 : (z.state == 4) = true := by simp [h4]
    have hfin := hide (Zn.read_off (⟨#[]⟩) off h4)
    clear h4
    go_enter Try.func10, Try.ntmps10
    go_wp2
    go_ret2
    rw [hfin.out]
    exact ⟨rfl, rfl⟩
  · have e4 : (z.state == 4) = false := by simp [h4]
    by_cases hlo : off < 0
    · have hfin := hide (Zn.read_out (⟨#[]⟩) off h4 (.inl hlo))
      clear h4
      go_enter Try.func10, Try.ntmps10
      go_wp2
      go_ret2
      rw [hfin.out]
      exact ⟨rfl, rfl⟩
    · by_cases hhi : (z.L.length : Int) ≤ off
      · have hfin := hide (Zn.read_out (⟨#[]⟩) off h4 (.inr hhi))
        clear h4
        go_enter Try.func10, Try.ntmps10
        go_wp2
        go_ret2
        rw [hfin.out]
        exact ⟨rfl, rfl⟩
      · obtain ⟨k, rfl⟩ := Int.eq_ofNat_of_zero_le (Int.not_lt.1 hlo)
        have hk : k < z.L.length := by omega
        obtain ⟨g, c', c0', hc', ck⟩ := row_cell hz'.out k hk
        have hfin := hide (Zn.read_in (⟨#[]⟩) k h4 hk)
        clear h4 c0
        go_enter Try.func10, Try.ntmps10
        go_wp2
        go_ret2
        rw [hfin.out]
        exact ⟨rfl, rfl⟩

/-- A call has laid a new zone. -/
def Made (w w' : World) (b : Nat) (z : Zn ByteArray) : Prop := ∃ F : Nat → Prop, At w' b z F ∧ Mods (fun _ => False) w w' ∧ ∀ k, F k → w.heap.size ≤ k

set_option maxHeartbeats 400000 in
theorem new_no (size : Int) (w : World) (h : size < 1 ∨ 64 < size) :
    Calls Try.prog 8 #[.int .i64 size] w fun e w' => e = .returned (.tuple #[.pointer none, .int .i64 13]) ∧ w = w' := by
  by_cases h1 : size < 1
  · clear h
    go_enter Try.func8, Try.ntmps8
    go_wp2
    go_ret2
    exact ⟨rfl, rfl⟩
  · have h2 : 64 < size := by omega
    clear h
    go_enter Try.func8, Try.ntmps8
    go_wp2
    go_ret2
    exact ⟨rfl, rfl⟩

set_option maxHeartbeats 400000 in
theorem new_any (size : Int) (w : World) (h1 : 1 ≤ size) (h2 : size ≤ 64) :
    Calls Try.prog 8 #[.int .i64 size] w fun e w' => e = .returned (.tuple #[.pointer (some ⟨w.heap.size, 0, none⟩), .int .i64 0]) ∧ Made w w' w.heap.size (Zn.new size) := by
  go_enter Try.func8, Try.ntmps8
  go_wp2
  go_ret2
  refine ⟨rfl, fun k => k = w.heap.size, ⟨none, 0, Blk.new _ _ _, rfl, World.ownsRow_nil _ _ _ _, fun g hg => by simp [Value.ownBlock] at hg, fun k hk => by subst hk; simp⟩, (Mods.refl _ _).alloc _, fun k hk => by omega⟩

set_option maxHeartbeats 400000 in
theorem reset_any (z : Zn ByteArray) (b : Nat) (w : World) (F : Nat → Prop) (hz : At w b z F) :
    Calls Try.prog 12 #[.pointer (some ⟨b, 0, none⟩)] w fun e w' => e = .returned (.int .i64 z.reset.2) ∧ Does w w' b z.reset.1 F := by
  have hz' := hide hz
  obtain ⟨A, c, hb, hFb, hown, hg, hlt⟩ := hz
  have c0 : w.cell? ⟨b, 0, none⟩ = _ := hb.cell 0
  have c2 : w.cell? ⟨b, 2, none⟩ = _ := hb.cell 2
  have c3 : w.cell? ⟨b, 3, none⟩ = _ := hb.cell 3
  have c4 : w.cell? ⟨b, 4, none⟩ = _ := hb.cell 4
  simp only [List.getElem?_toArray, List.getElem?_cons_zero, List.getElem?_cons_succ] at c0 c2 c3 c4
  have f0 := hb.frozen 0
  have f2 := hb.frozen 2
  have f3 := hb.frozen 3
  have f4 := hb.frozen 4
  by_cases hf : failedOf z.state = 0
  · have ef : (failedOf z.state != 0) = false := by simp [hf]
    have hfin := hide (Zn.reset_ok hf)
    clear hf
    go_enter Try.func12, Try.ntmps12
    go_wp2_with (go_at_call 28; refine (failed_any _ _ _ c3).mono ?_; rintro e w' ⟨rfl, rfl⟩)
    go_ret
    rw [hfin.out]
    refine ⟨rfl, ?_⟩
    refine Did.mk' (A := none) (c := 0) (z' := { L := [], size := z.size, safe := 0, state := 0, fin := false }) ?_ ?_ hFb ?_ ?_ hlt
    · exact (((hb.set_ 0 _).set_ 2 _).set_ 3 _).set_ 4 _
    · exact ((((Mods.refl F w).setCell (.inl hFb) _).setCell (.inl hFb) _).setCell (.inl hFb) _).setCell (.inl hFb) _
    · exact World.ownsRow_nil _ _ _ _
    · intro g hg'
      simp [Value.ownBlock] at hg'
  · have ef : (failedOf z.state != 0) = true := by simp [hf]
    have hfin := hide (Zn.reset_failed hf)
    clear hf
    go_enter Try.func12, Try.ntmps12
    go_wp2_with (go_at_call 28; refine (failed_any _ _ _ c3).mono ?_; rintro e w' ⟨rfl, rfl⟩)
    go_ret
    rw [hfin.out]
    exact ⟨rfl, Did.same hz'.out⟩

theorem Made.below {w w' : World} {b : Nat} {z : Zn ByteArray} (h : Made w w' b z) : ∃ F : Nat → Prop, At w' b z F ∧ Below w.heap.size w w' ∧ ∀ k, F k → w.heap.size ≤ k := by
  obtain ⟨F, hz, hm, hf⟩ := h
  exact ⟨F, hz, hm.below (Nat.le_refl _) (fun _ h => h.elim), hf⟩

end Go.Proofs.Ytahlphclighccaa.ZS
