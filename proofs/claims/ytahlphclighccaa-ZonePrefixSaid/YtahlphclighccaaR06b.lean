/-
  The document's zone (package revetmentref06): Read, Reset, Finish, Flush, Fail.
-/
import Derived.Test.YtahlphclighccaaR06
namespace Go.Proofs.Ytahlphclighccaa.R06
open Go.RowKit

/-- What a method hands back that answers a zone and a number. -/
def Gave1 (w : World) (G : Nat → Prop) (z : Zn Int) (p : Int) (e : Ending) (w' : World) : Prop :=
  ∃ A c, e = .returned (.tuple #[.agg #[.slice A z.L.length c, .int .i64 z.size, .int .i64 (z.safe : Int), .int .i64 z.state, .bool z.fin], .int .i64 p]) ∧ At w' A c z (fun k => G k ∨ w.heap.size ≤ k) ∧ Below w.heap.size w w'
/-- What a method hands back that answers a zone. -/
def Gave0 (w : World) (G : Nat → Prop) (z : Zn Int) (e : Ending) (w' : World) : Prop :=
  ∃ A c, e = .returned (.agg #[.slice A z.L.length c, .int .i64 z.size, .int .i64 (z.safe : Int), .int .i64 z.state, .bool z.fin]) ∧ At w' A c z (fun k => G k ∨ w.heap.size ≤ k) ∧ Below w.heap.size w w'
theorem Gave1.mk' {w w' : World} {G : Nat → Prop} {z : Zn Int} {p : Int} {A : Option Addr} {c : Nat} (hb : Below w.heap.size w w') (hown : w'.ownsRow 0 3 1 (.slice A z.L.length c) z.L.length (z.L.map (Value.int .i64)))
    (hat : ∀ g, (Value.slice A z.L.length c).ownBlock = some g → G g ∨ w.heap.size ≤ g) :
    Gave1 w G z p (.returned (.tuple #[.agg #[.slice A z.L.length c, .int .i64 z.size, .int .i64 (z.safe : Int), .int .i64 z.state, .bool z.fin], .int .i64 p])) w' :=
  ⟨A, c, rfl, ⟨hown, hat⟩, hb⟩
theorem Gave0.mk' {w w' : World} {G : Nat → Prop} {z : Zn Int} {A : Option Addr} {c : Nat} (hb : Below w.heap.size w w') (hown : w'.ownsRow 0 3 1 (.slice A z.L.length c) z.L.length (z.L.map (Value.int .i64)))
    (hat : ∀ g, (Value.slice A z.L.length c).ownBlock = some g → G g ∨ w.heap.size ≤ g) :
    Gave0 w G z (.returned (.agg #[.slice A z.L.length c, .int .i64 z.size, .int .i64 (z.safe : Int), .int .i64 z.state, .bool z.fin])) w' :=
  ⟨A, c, rfl, ⟨hown, hat⟩, hb⟩

set_option maxHeartbeats 1000000 in
theorem reset_any (z : Zn Int) (A : Option Addr) (c : Nat) (w : World) (G : Nat → Prop) (hz : At w A c z G) :
    Calls Try.prog 34 #[.agg #[.slice A z.L.length c, .int .i64 z.size, .int .i64 (z.safe : Int), .int .i64 z.state, .bool z.fin]] w (Gave1 w G z.reset.1 z.reset.2) := by
  have hz' := hide hz
  clear hz
  by_cases hf : failedOf z.state = 0
  · have ef : (failedOf z.state != 0) = false := by simp [hf]
    have hfin := hide (Zn.reset_ok hf)
    clear hf
    go_enter Try.func34, Try.ntmps34
    go_wp2_with (go_at_call 43; refine (failed_any _ _ _ _ _ _ _ _).mono ?_; rintro e w' ⟨rfl, rfl⟩)
    refine bodyPost_ret (v := .tuple #[.agg #[.slice none 0 0, .int .i64 z.size, .int .i64 0, .int .i64 0, .bool false], .int .i64 0]) (by simp [results, Try.results34, go_sem]) rfl ?_
    rw [hfin.out]
    have hB : ∀ o1 o2 o3 : Obj, Below w.heap.size w (((w.alloc o1).alloc o2).alloc o3) := fun _ _ _ => ((((Below.refl _ w).alloc (by simp) _).alloc (by simp) _).alloc (by simp; omega) _)
    exact Gave1.mk' (z := { L := [], size := z.size, safe := 0, state := 0, fin := false }) (hB _ _ _) (World.ownsRow_nil _ _ _ _) (fun g hg => by simp [Value.ownBlock] at hg)
  · have ef : (failedOf z.state != 0) = true := by simp [hf]
    have hfin := hide (Zn.reset_failed hf)
    clear hf
    go_enter Try.func34, Try.ntmps34
    go_wp2_with (go_at_call 43; refine (failed_any _ _ _ _ _ _ _ _).mono ?_; rintro e w' ⟨rfl, rfl⟩)
    go_region_held3 (fun w' => w'.cell? ⟨w.heap.size, 0, none⟩ = some (.slice A z.L.length c) ∧ w'.cell? ⟨w.heap.size, 1, none⟩ = some (.int .i64 z.size) ∧ w'.cell? ⟨w.heap.size, 2, none⟩ = some (.int .i64 (z.safe : Int)) ∧ w'.cell? ⟨w.heap.size, 3, none⟩ = some (.int .i64 z.state) ∧ w'.cell? ⟨w.heap.size, 4, none⟩ = some (.bool z.fin)) (go_keep)
      (first | (go_at_call 43; refine (failed_any _ _ _ _ _ _ _ _).mono ?_; rintro e w' ⟨rfl, rfl⟩))
    go_wp2_with fail
    refine bodyPost_ret (v := .tuple #[.agg #[.slice A z.L.length c, .int .i64 z.size, .int .i64 (z.safe : Int), .int .i64 z.state, .bool z.fin], .int .i64 (failedOf z.state)]) (by simp [results, Try.results34, go_sem]) rfl ?_
    rw [hfin.out]
    have hB : ∀ o1 o2 o3 o4 : Obj, Below w.heap.size w ((((w.alloc o1).alloc o2).alloc o3).alloc o4).drew := fun _ _ _ _ => (((((Below.refl _ w).alloc (by simp) _).alloc (by simp) _).alloc (by simp; omega) _).alloc (by simp; omega) _).drew
    exact Gave1.mk' (hB _ _ _ _) (hz'.out.below (hB _ _ _ _)).1 (fun g hg => .inl (hz'.out.2 g hg))

set_option maxHeartbeats 1000000 in
theorem finish_any (z : Zn Int) (A : Option Addr) (c : Nat) (w : World) (G : Nat → Prop) (hz : At w A c z G) :
    Calls Try.prog 35 #[.agg #[.slice A z.L.length c, .int .i64 z.size, .int .i64 (z.safe : Int), .int .i64 z.state, .bool z.fin]] w (Gave1 w G z.finish.1 z.finish.2) := by
  have hz' := hide hz
  clear hz
  by_cases hf : failedOf z.state = 0
  · have ef : (failedOf z.state != 0) = false := by simp [hf]
    have hfin := hide (Zn.finish_ok hf)
    clear hf
    go_enter Try.func35, Try.ntmps35
    go_wp2_with (go_at_call 43; refine (failed_any _ _ _ _ _ _ _ _).mono ?_; rintro e w' ⟨rfl, rfl⟩)
    refine bodyPost_ret (v := .tuple #[.agg #[.slice A z.L.length c, .int .i64 z.size, .int .i64 (z.safe : Int), .int .i64 2, .bool true], .int .i64 0]) (by simp [results, Try.results35, go_sem]) rfl ?_
    rw [hfin.out]
    have hB : ∀ o1 o2 o3 : Obj, Below w.heap.size w (((w.alloc o1).alloc o2).alloc o3) := fun _ _ _ => ((((Below.refl _ w).alloc (by simp) _).alloc (by simp) _).alloc (by simp; omega) _)
    exact Gave1.mk' (z := { z with state := 2, fin := true }) (hB _ _ _) (hz'.out.below (hB _ _ _)).1 (fun g hg => .inl (hz'.out.2 g hg))
  · have ef : (failedOf z.state != 0) = true := by simp [hf]
    have hfin := hide (Zn.finish_failed hf)
    clear hf
    go_enter Try.func35, Try.ntmps35
    go_wp2_with (go_at_call 43; refine (failed_any _ _ _ _ _ _ _ _).mono ?_; rintro e w' ⟨rfl, rfl⟩)
    go_region_held3 (fun w' => w'.cell? ⟨w.heap.size, 0, none⟩ = some (.slice A z.L.length c) ∧ w'.cell? ⟨w.heap.size, 1, none⟩ = some (.int .i64 z.size) ∧ w'.cell? ⟨w.heap.size, 2, none⟩ = some (.int .i64 (z.safe : Int)) ∧ w'.cell? ⟨w.heap.size, 3, none⟩ = some (.int .i64 z.state) ∧ w'.cell? ⟨w.heap.size, 4, none⟩ = some (.bool z.fin)) (go_keep)
      (first | (go_at_call 43; refine (failed_any _ _ _ _ _ _ _ _).mono ?_; rintro e w' ⟨rfl, rfl⟩))
    go_wp2_with fail
    refine bodyPost_ret (v := .tuple #[.agg #[.slice A z.L.length c, .int .i64 z.size, .int .i64 (z.safe : Int), .int .i64 z.state, .bool z.fin], .int .i64 (failedOf z.state)]) (by simp [results, Try.results35, go_sem]) rfl ?_
    rw [hfin.out]
    have hB : ∀ o1 o2 o3 o4 : Obj, Below w.heap.size w ((((w.alloc o1).alloc o2).alloc o3).alloc o4).drew := fun _ _ _ _ => (((((Below.refl _ w).alloc (by simp) _).alloc (by simp) _).alloc (by simp; omega) _).alloc (by simp; omega) _).drew
    exact Gave1.mk' (hB _ _ _ _) (hz'.out.below (hB _ _ _ _)).1 (fun g hg => .inl (hz'.out.2 g hg))

set_option maxHeartbeats 1000000 in
theorem flush_any (z : Zn Int) (A : Option Addr) (c : Nat) (w : World) (G : Nat → Prop) (hz : At w A c z G) :
    Calls Try.prog 36 #[.agg #[.slice A z.L.length c, .int .i64 z.size, .int .i64 (z.safe : Int), .int .i64 z.state, .bool z.fin]] w (Gave0 w G z.flush) := by
  have hz' := hide hz
  clear hz
  go_enter Try.func36, Try.ntmps36
  go_wp2
  refine bodyPost_ret (v := .agg #[.slice A z.L.length c, .int .i64 z.size, .int .i64 (z.L.length : Int), .int .i64 z.state, .bool z.fin]) (by simp [results, Try.results36, go_sem]) rfl ?_
  have hB : ∀ o1 o2 : Obj, Below w.heap.size w ((w.alloc o1).alloc o2) := fun _ _ => (((Below.refl _ w).alloc (by simp) _).alloc (by simp) _)
  exact Gave0.mk' (z := z.flush) (hB _ _) (hz'.out.below (hB _ _)).1 (fun g hg => .inl (hz'.out.2 g hg))

set_option maxHeartbeats 1000000 in
theorem fail_any (z : Zn Int) (s : Int) (A : Option Addr) (c : Nat) (w : World) (G : Nat → Prop) (hz : At w A c z G) :
    Calls Try.prog 38 #[.agg #[.slice A z.L.length c, .int .i64 z.size, .int .i64 (z.safe : Int), .int .i64 z.state, .bool z.fin], .int .i64 s] w (Gave0 w G (z.fail s)) := by
  have hz' := hide hz
  clear hz
  have hB : ∀ o1 o2 : Obj, Below w.heap.size w ((w.alloc o1).alloc o2) := fun _ _ => (((Below.refl _ w).alloc (by simp) _).alloc (by simp) _)
  have HB := hide hB
  clear hB
  by_cases h4 : s = 4
  · have hfin := hide (Zn.fail_yes (z := z) s (.inl h4))
    have e4 : (s == 4) = true := by simp [h4]
    clear h4
    go_enter Try.func38, Try.ntmps38
    go_wp2
    refine bodyPost_ret (v := .agg #[.slice A z.L.length c, .int .i64 z.size, .int .i64 (z.safe : Int), .int .i64 s, .bool z.fin]) (by simp [results, Try.results38, go_sem]) rfl ?_
    rw [hfin.out]
    exact Gave0.mk' (z := { z with state := s }) (HB.out _ _) (hz'.out.below (HB.out _ _)).1 (fun g hg => .inl (hz'.out.2 g hg))
  · have e4 : (s == 4) = false := by simp [h4]
    by_cases h3 : s = 3
    · have e3 : (s == 3) = true := by simp [h3]
      by_cases hs : z.state = 4
      · have es : (z.state != 4) = false := by simp [hs]
        have hfin := hide (Zn.fail_no (z := z) s (by omega))
        clear h4 h3 hs
        go_enter Try.func38, Try.ntmps38
        go_wp2
        refine bodyPost_ret (v := .agg #[.slice A z.L.length c, .int .i64 z.size, .int .i64 (z.safe : Int), .int .i64 z.state, .bool z.fin]) (by simp [results, Try.results38, go_sem]) rfl ?_
        rw [hfin.out]
        exact Gave0.mk' (HB.out _ _) (hz'.out.below (HB.out _ _)).1 (fun g hg => .inl (hz'.out.2 g hg))
      · have es : (z.state != 4) = true := by simp [hs]
        have hfin := hide (Zn.fail_yes (z := z) s (.inr ⟨h3, hs⟩))
        clear h4 h3 hs
        go_enter Try.func38, Try.ntmps38
        go_wp2
        refine bodyPost_ret (v := .agg #[.slice A z.L.length c, .int .i64 z.size, .int .i64 (z.safe : Int), .int .i64 s, .bool z.fin]) (by simp [results, Try.results38, go_sem]) rfl ?_
        rw [hfin.out]
        exact Gave0.mk' (z := { z with state := s }) (HB.out _ _) (hz'.out.below (HB.out _ _)).1 (fun g hg => .inl (hz'.out.2 g hg))
    · have e3 : (s == 3) = false := by simp [h3]
      have hfin := hide (Zn.fail_no (z := z) s (by omega))
      clear h4 h3
      go_enter Try.func38, Try.ntmps38
      go_wp2
      refine bodyPost_ret (v := .agg #[.slice A z.L.length c, .int .i64 z.size, .int .i64 (z.safe : Int), .int .i64 z.state, .bool z.fin]) (by simp [results, Try.results38, go_sem]) rfl ?_
      rw [hfin.out]
      exact Gave0.mk' (HB.out _ _) (hz'.out.below (HB.out _ _)).1 (fun g hg => .inl (hz'.out.2 g hg))

set_option maxHeartbeats 1000000 in
theorem read_any (z : Zn Int) (off : Int) (A : Option Addr) (c : Nat) (w : World) (G : Nat → Prop) (hz : At w A c z G) (_hn : z.L.length < 65536) :
    Calls Try.prog 33 #[.agg #[.slice A z.L.length c, .int .i64 z.size, .int .i64 (z.safe : Int), .int .i64 z.state, .bool z.fin], .int .i64 off] w fun e w' =>
      e = .returned (.tuple #[.int .i64 (z.read 0 off).1, .int .i64 (z.read 0 off).2]) ∧ Below w.heap.size w w' := by
  have hz' := hide hz
  clear hz
  by_cases h4 : z.state = 4
  · have e4 : (z.state == 4) = true := by simp [h4]
    have hfin := hide (Zn.read_off (z := z) 0 off h4)
    clear h4
    go_enter Try.func33, Try.ntmps33
    go_wp2
    go_ret2
    rw [hfin.out]
    exact ⟨rfl, (Below.refl _ w).alloc (by simp) _⟩
  · have e4 : (z.state == 4) = false := by simp [h4]
    by_cases hlo : off < 0
    · have hfin := hide (Zn.read_out (z := z) 0 off h4 (.inl hlo))
      clear h4
      go_enter Try.func33, Try.ntmps33
      go_wp2
      go_ret2
      rw [hfin.out]
      exact ⟨rfl, (Below.refl _ w).alloc (by simp) _⟩
    · by_cases hhi : (z.L.length : Int) ≤ off
      · have hfin := hide (Zn.read_out (z := z) 0 off h4 (.inr hhi))
        clear h4
        go_enter Try.func33, Try.ntmps33
        go_wp2
        go_ret2
        rw [hfin.out]
        exact ⟨rfl, (Below.refl _ w).alloc (by simp) _⟩
      · obtain ⟨k, rfl⟩ := Int.eq_ofNat_of_zero_le (Int.not_lt.1 hlo)
        have hk : k < z.L.length := by omega
        have hfin := hide (Zn.read_in (z := z) 0 k h4 hk)
        obtain ⟨g, rfl, ck⟩ : ∃ g, A = some ⟨g, 0, none⟩ ∧ w.cell? ⟨g, k, none⟩ = some (.int .i64 z.L[k]) := by
          have hown := hz'.out.1
          rcases hown.2 with ⟨h, h0⟩ | ⟨g, cap, cur, h, _⟩
          · omega
          · simp only [Value.slice.injEq, true_and] at h
            obtain ⟨rfl, rfl⟩ := h
            refine ⟨g, rfl, ?_⟩
            have := hown.cells (g := g) rfl k (.int .i64 z.L[k]) (by simp [hk])
            simpa [Addr.add_lit] using this
        clear h4
        go_enter Try.func33, Try.ntmps33
        have ck' := fun o : Obj => Lib.cell?_alloc_some (W := w) o ck
        go_wp2
        go_ret2
        rw [hfin.out]
        exact ⟨rfl, (Below.refl _ w).alloc (by simp) _⟩
end Go.Proofs.Ytahlphclighccaa.R06
