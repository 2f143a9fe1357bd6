/-
  The zone's methods at frame.Sector that look into no sector: what each call answers, and what it leaves in memory.
-/
import Derived.Test.YtdinbhanekpjoaaRows
import Derived.Test.YtdinbhanekpjoaaDKit
import Derived.Deep.QuietTactic
import Derived.BigQuiet
import Derived.Deep.RegionLaw
namespace Go.Proofs.Ytdinbhanekpjoaa.ZD
open Go.RowKit

abbrev T : TypeId := 131
abbrev E : TypeId := 34
theorem ret_int {k : IntKind} {a b : Int} (h : a = b) : Ending.returned (.int k a) = .returned (.int k b) := by rw [h]
abbrev At := SAt 131 34
abbrev Does := SDid 131 34

set_option maxHeartbeats 400000 in
theorem failed_any (b : Nat) (s : Int) (w : World) (hc : w.cell? ⟨b, 3, none⟩ = some (.int .i64 s)) :
    Calls Try.prog 90 #[.pointer (some ⟨b, 0, none⟩)] w fun e w' => e = .returned (.int .i64 (failedOf s)) ∧ w = w' := by
  by_cases h4 : s = 4
  · subst h4
    go_enter Try.func90, Try.ntmps90
    go_wp2
    go_ret
    exact ⟨rfl, rfl⟩
  · by_cases h3 : s = 3
    · subst h3
      go_enter Try.func90, Try.ntmps90
      go_wp2
      go_ret
      exact ⟨rfl, rfl⟩
    · have e4 : (s == 4) = false := by simpa using h4
      have e3 : (s == 3) = false := by simpa using h3
      have e0 := hide (failedOf_zero h4 h3)
      go_enter Try.func90, Try.ntmps90
      go_wp2
      go_ret
      exact ⟨ret_int e0.out.symm, rfl⟩

set_option maxHeartbeats 400000 in
theorem state_any (b : Nat) (s : Int) (w : World) (hc : w.cell? ⟨b, 3, none⟩ = some (.int .i64 s)) :
    Calls Try.prog 47 #[.pointer (some ⟨b, 0, none⟩)] w fun e w' => e = .returned (.int .i64 s) ∧ w = w' := by
  go_enter Try.func47, Try.ntmps47
  go_wp2
  go_ret
  exact ⟨rfl, rfl⟩

set_option maxHeartbeats 400000 in
theorem len_any (b : Nat) (A : Option Addr) (n c : Nat) (w : World) (hc : w.cell? ⟨b, 0, none⟩ = some (.slice A n c)) :
    Calls Try.prog 58 #[.pointer (some ⟨b, 0, none⟩)] w fun e w' => e = .returned (.int .i64 (n : Int)) ∧ w = w' := by
  go_enter Try.func58, Try.ntmps58
  go_wp2
  go_ret
  exact ⟨rfl, rfl⟩

/-- A call has laid a new zone. -/
def Made (w w' : World) (b : Nat) (z : Zn Sec) : Prop := ∃ F : Nat → Prop, At w' b z F ∧ Mods (fun _ => False) w w' ∧ ∀ k, F k → w.heap.size ≤ k
set_option maxHeartbeats 400000 in
theorem new_no (size : Int) (w : World) (h : size < 1 ∨ 64 < size) :
    Calls Try.prog 45 #[.int .i64 size] w fun e w' => e = .returned (.tuple #[.pointer none, .int .i64 13]) ∧ w = w' := by
  by_cases h1 : size < 1
  · clear h
    go_enter Try.func45, Try.ntmps45
    go_wp2
    go_ret2
    exact ⟨rfl, rfl⟩
  · have h2 : 64 < size := by omega
    clear h
    go_enter Try.func45, Try.ntmps45
    go_wp2
    go_ret2
    exact ⟨rfl, rfl⟩

set_option maxHeartbeats 400000 in
theorem new_any (size : Int) (w : World) (h1 : 1 ≤ size) (h2 : size ≤ 64) :
    Calls Try.prog 45 #[.int .i64 size] w fun e w' => e = .returned (.tuple #[.pointer (some ⟨w.heap.size, 0, none⟩), .int .i64 0]) ∧ Made w w' w.heap.size (Zn.new size) := by
  go_enter Try.func45, Try.ntmps45
  go_wp2
  go_ret2
  refine ⟨rfl, fun k => k = w.heap.size, ⟨none, 0, Blk.new _ _ _, rfl, World.ownsRow_nil _ _ _ _, fun g hg => by simp [Value.ownBlock] at hg, fun k hk => by subst hk; simp⟩, (Mods.refl _ _).alloc _, fun k hk => by omega⟩

set_option maxHeartbeats 400000 in
theorem reset_any (z : Zn Sec) (b : Nat) (w : World) (F : Nat → Prop) (hz : At w b z F) :
    Calls Try.prog 68 #[.pointer (some ⟨b, 0, none⟩)] w fun e w' => e = .returned (.int .i64 z.reset.2) ∧ Does w w' b z.reset.1 F := by
  have hz' := hide hz
  obtain ⟨A, c, hb, hFb, hown, hg, hlt⟩ := hz
  have c0 : w.cell? ⟨b, 0, none⟩ = _ := hb.cell 0
  have c2 : w.cell? ⟨b, 2, none⟩ = _ := hb.cell 2
  have c3 : w.cell? ⟨b, 3, none⟩ = _ := hb.cell 3
  have c4 : w.cell? ⟨b, 4, none⟩ = _ := hb.cell 4
  simp only [List.getElem?_toArray, List.getElem?_cons_zero, List.getElem?_cons_succ] at c0 c2 c3 c4
  have f0 := hb.frozen 0
  have f2 := hb.frozen 2
  have f3 := hb.frozen 3
  have f4 := hb.frozen 4
  by_cases hf : failedOf z.state = 0
  · have ef : (failedOf z.state != 0) = false := by simp [hf]
    have hfin := hide (Zn.reset_ok hf)
    clear hf
    go_enter Try.func68, Try.ntmps68
    go_wp2_with (go_at_call 90; refine (failed_any _ _ _ c3).mono ?_; rintro e w' ⟨rfl, rfl⟩)
    go_ret
    rw [hfin.out]
    refine ⟨rfl, ?_⟩
    refine SDid.mk' (A := none) (c := 0) (z' := { L := [], size := z.size, safe := 0, state := 0, fin := false }) ?_ ?_ hFb ?_ ?_ hlt
    · exact (((hb.set_ 0 _).set_ 2 _).set_ 3 _).set_ 4 _
    · exact ((((Mods.refl F w).setCell (.inl hFb) _).setCell (.inl hFb) _).setCell (.inl hFb) _).setCell (.inl hFb) _
    · exact World.ownsRow_nil _ _ _ _
    · intro g hg'
      simp [Value.ownBlock] at hg'
  · have ef : (failedOf z.state != 0) = true := by simp [hf]
    have hfin := hide (Zn.reset_failed hf)
    clear hf
    go_enter Try.func68, Try.ntmps68
    go_wp2_with (go_at_call 90; refine (failed_any _ _ _ c3).mono ?_; rintro e w' ⟨rfl, rfl⟩)
    go_ret
    rw [hfin.out]
    exact ⟨rfl, SDid.same hz'.out⟩

theorem Made.below {w w' : World} {b : Nat} {z : Zn Sec} (h : Made w w' b z) : ∃ F : Nat → Prop, At w' b z F ∧ Below w.heap.size w w' ∧ ∀ k, F k → w.heap.size ≤ k := by
  obtain ⟨F, hz, hm, hf⟩ := h
  exact ⟨F, hz, hm.below (Nat.le_refl _) (fun _ h => h.elim), hf⟩

set_option maxHeartbeats 400000 in
theorem finish_any (z : Zn Sec) (b : Nat) (w : World) (F : Nat → Prop) (hz : At w b z F) :
    Calls Try.prog 69 #[.pointer (some ⟨b, 0, none⟩)] w fun e w' => e = .returned (.int .i64 z.finish.2) ∧ Does w w' b z.finish.1 F := by
  have hz' := hide hz
  obtain ⟨A, c, hb, hFb, hown, hg, hlt⟩ := hz
  have c3 : w.cell? ⟨b, 3, none⟩ = _ := hb.cell 3
  have c4 : w.cell? ⟨b, 4, none⟩ = _ := hb.cell 4
  simp only [List.getElem?_toArray, List.getElem?_cons_zero, List.getElem?_cons_succ] at c3 c4
  have f3 := hb.frozen 3
  have f4 := hb.frozen 4
  by_cases hf : failedOf z.state = 0
  · have ef : (failedOf z.state != 0) = false := by simp [hf]
    have hfin := hide (Zn.finish_ok hf)
    clear hf
    go_enter Try.func69, Try.ntmps69
    go_wp2_with (go_at_call 90; refine (failed_any _ _ _ c3).mono ?_; rintro e w' ⟨rfl, rfl⟩)
    go_ret
    rw [hfin.out]
    refine ⟨rfl, ?_⟩
    refine SDid.mk' (A := A) (c := c) (z' := { z with state := 2, fin := true }) ?_ ?_ hFb ?_ (fun g hg' => .inl (hg g hg')) hlt
    · exact (hb.set_ 3 _).set_ 4 _
    · exact ((Mods.refl F w).setCell (.inl hFb) _).setCell (.inl hFb) _
    · exact own_setCell (own_setCell hown (fun e => (hg b e).2 rfl) _) (fun e => (hg b e).2 rfl) _
  · have ef : (failedOf z.state != 0) = true := by simp [hf]
    have hfin := hide (Zn.finish_failed hf)
    clear hf
    go_enter Try.func69, Try.ntmps69
    go_wp2_with (go_at_call 90; refine (failed_any _ _ _ c3).mono ?_; rintro e w' ⟨rfl, rfl⟩)
    go_ret
    rw [hfin.out]
    exact ⟨rfl, SDid.same hz'.out⟩

set_option maxHeartbeats 400000 in
theorem flush_any (z : Zn Sec) (b : Nat) (w : World) (F : Nat → Prop) (hz : At w b z F) :
    Calls Try.prog 57 #[.pointer (some ⟨b, 0, none⟩)] w fun e w' => e = .returned (.tuple #[]) ∧ Does w w' b z.flush F := by
  obtain ⟨A, c, hb, hFb, hown, hg, hlt⟩ := hz
  have c0 : w.cell? ⟨b, 0, none⟩ = _ := hb.cell 0
  have c2 : w.cell? ⟨b, 2, none⟩ = _ := hb.cell 2
  simp only [List.getElem?_toArray, List.getElem?_cons_zero, List.getElem?_cons_succ] at c0 c2
  have f2 := hb.frozen 2
  go_enter Try.func57, Try.ntmps57
  go_wp2
  go_end0
  refine ⟨rfl, ?_⟩
  refine SDid.mk' (A := A) (c := c) (z' := z.flush) ?_ ?_ hFb ?_ (fun g hg' => .inl (hg g hg')) hlt
  · exact hb.set_ 2 _
  · exact (Mods.refl F w).setCell (.inl hFb) _
  · exact own_setCell hown (fun e => (hg b e).2 rfl) _

set_option maxHeartbeats 400000 in
theorem fail_any (z : Zn Sec) (s : Int) (b : Nat) (w : World) (F : Nat → Prop) (hz : At w b z F) :
    Calls Try.prog 89 #[.pointer (some ⟨b, 0, none⟩), .int .i64 s] w fun e w' => e = .returned (.tuple #[]) ∧ Does w w' b (z.fail s) F := by
  have hz' := hide hz
  obtain ⟨A, c, hb, hFb, hown, hg, hlt⟩ := hz
  have c3 : w.cell? ⟨b, 3, none⟩ = _ := hb.cell 3
  simp only [List.getElem?_toArray, List.getElem?_cons_zero, List.getElem?_cons_succ] at c3
  have f3 := hb.frozen 3
  have yes : (s = 4 ∨ (s = 3 ∧ z.state ≠ 4)) → Hid (z.fail s = { z with state := s }) := fun h => hide (by rw [Zn.fail, if_pos h])
  have no : ¬ (s = 4 ∨ (s = 3 ∧ z.state ≠ 4)) → Hid (z.fail s = z) := fun h => hide (by rw [Zn.fail, if_neg h])
  by_cases h4 : s = 4
  · have hfin := yes (.inl h4)
    have e4 : (s == 4) = true := by simp [h4]
    clear h4 yes no
    go_enter Try.func89, Try.ntmps89
    go_wp2
    go_end0
    rw [hfin.out]
    refine ⟨rfl, ?_⟩
    refine SDid.mk' (A := A) (c := c) (z' := { z with state := s }) ?_ ?_ hFb ?_ (fun g hg' => .inl (hg g hg')) hlt
    · exact hb.set_ 3 _
    · exact (Mods.refl F w).setCell (.inl hFb) _
    · exact own_setCell hown (fun e => (hg b e).2 rfl) _
  · have e4 : (s == 4) = false := by simp [h4]
    by_cases h3 : s = 3
    · have e3 : (s == 3) = true := by simp [h3]
      by_cases hs : z.state = 4
      · have es : (z.state != 4) = false := by simp [hs]
        have hfin := no (by omega)
        clear h4 h3 hs yes no
        go_enter Try.func89, Try.ntmps89
        go_wp2
        go_end0
        rw [hfin.out]
        exact ⟨rfl, SDid.same hz'.out⟩
      · have es : (z.state != 4) = true := by simp [hs]
        have hfin := yes (.inr ⟨h3, hs⟩)
        clear h4 h3 hs yes no
        go_enter Try.func89, Try.ntmps89
        go_wp2
        go_end0
        rw [hfin.out]
        refine ⟨rfl, ?_⟩
        refine SDid.mk' (A := A) (c := c) (z' := { z with state := s }) ?_ ?_ hFb ?_ (fun g hg' => .inl (hg g hg')) hlt
        · exact hb.set_ 3 _
        · exact (Mods.refl F w).setCell (.inl hFb) _
        · exact own_setCell hown (fun e => (hg b e).2 rfl) _
    · have e3 : (s == 3) = false := by simp [h3]
      have hfin := no (by omega)
      clear h4 h3 yes no
      go_enter Try.func89, Try.ntmps89
      go_wp2
      go_end0
      rw [hfin.out]
      exact ⟨rfl, SDid.same hz'.out⟩

end Go.Proofs.Ytdinbhanekpjoaa.ZD
