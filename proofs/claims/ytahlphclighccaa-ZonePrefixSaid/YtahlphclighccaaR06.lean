/-
  The document's zone (package revetmentref06): what each method answers.
-/
import Derived.Test.YtahlphclighccaaRows
import Derived.Test.YtahlphclighccaaZKit
import Derived.Deep.QuietTactic
import Derived.BigQuiet
import Derived.Deep.RegionHeld3
import Derived.Deep.DeepCutAuto
namespace Go.Proofs.Ytahlphclighccaa.R06
open Go.RowKit

abbrev At := RefAt (α := Int) 3 (Value.int .i64)
theorem infoE : (Try.prog.info? 3).map (fun i => (i.zero, i.size, i.bytes)) = some (some (.int .i64 0), 1, 8) := by kernel_rfl
theorem ret_int {k : IntKind} {a b : Int} (h : a = b) : Ending.returned (.int k a) = .returned (.int k b) := by rw [h]

set_option maxHeartbeats 400000 in
theorem failed_any (A : Option Addr) (n c : Nat) (size safe s : Int) (fin : Bool) (w : World) :
    Calls Try.prog 43 #[.agg #[.slice A n c, .int .i64 size, .int .i64 safe, .int .i64 s, .bool fin]] w fun e w' =>
      e = .returned (.int .i64 (failedOf s)) ∧ w.alloc (.cells #[.slice A n c, .int .i64 size, .int .i64 safe, .int .i64 s, .bool fin] 49) = w' := by
  by_cases h4 : s = 4
  · subst h4
    go_enter Try.func43, Try.ntmps43
    go_wp2
    go_ret
    exact ⟨rfl, rfl⟩
  · by_cases h3 : s = 3
    · subst h3
      go_enter Try.func43, Try.ntmps43
      go_wp2
      go_ret
      exact ⟨rfl, rfl⟩
    · have e4 : (s == 4) = false := by simpa using h4
      have e3 : (s == 3) = false := by simpa using h3
      have e0 := hide (failedOf_zero h4 h3)
      go_enter Try.func43, Try.ntmps43
      go_wp2
      go_ret
      exact ⟨ret_int e0.out.symm, rfl⟩

/-- What a method hands back that answers a zone and two numbers. -/
def Gave2 (w : World) (G : Nat → Prop) (z : Zn Int) (p q : Int) (e : Ending) (w' : World) : Prop :=
  ∃ A c, e = .returned (.tuple #[.agg #[.slice A z.L.length c, .int .i64 z.size, .int .i64 (z.safe : Int), .int .i64 z.state, .bool z.fin], .int .i64 p, .int .i64 q]) ∧ At w' A c z (fun k => G k ∨ w.heap.size ≤ k) ∧ Below w.heap.size w w'

theorem Gave2.mk' {w w' : World} {G : Nat → Prop} {z : Zn Int} {p q : Int} {A : Option Addr} {c : Nat} (hb : Below w.heap.size w w') (hown : w'.ownsRow 0 3 1 (.slice A z.L.length c) z.L.length (z.L.map (Value.int .i64)))
    (hat : ∀ g, (Value.slice A z.L.length c).ownBlock = some g → G g ∨ w.heap.size ≤ g) :
    Gave2 w G z p q (.returned (.tuple #[.agg #[.slice A z.L.length c, .int .i64 z.size, .int .i64 (z.safe : Int), .int .i64 z.state, .bool z.fin], .int .i64 p, .int .i64 q])) w' :=
  ⟨A, c, rfl, ⟨hown, hat⟩, hb⟩

set_option maxHeartbeats 1000000 in
theorem append_no (z : Zn Int) (x : Int) (A : Option Addr) (c : Nat) (w : World) (G : Nat → Prop) (hz : At w A c z G) (hf : ¬ failedOf z.state = 0) :
    Calls Try.prog 32 #[.agg #[.slice A z.L.length c, .int .i64 z.size, .int .i64 (z.safe : Int), .int .i64 z.state, .bool z.fin], .int .i64 x] w
      (Gave2 w G (z.append x).1 (z.append x).2.1 (z.append x).2.2) := by
  have ef : (failedOf z.state != 0) = true := by simp [hf]
  have hfin := hide (Zn.append_failed x hf)
  have hz' := hide hz
  clear hf hz
  go_enter Try.func32, Try.ntmps32
  go_wp2_with (go_at_call 43; refine (failed_any _ _ _ _ _ _ _ _).mono ?_; rintro e w' ⟨rfl, rfl⟩)
  go_region_held3 (fun w' => w'.cell? ⟨w.heap.size, 0, none⟩ = some (.slice A z.L.length c) ∧ w'.cell? ⟨w.heap.size, 1, none⟩ = some (.int .i64 z.size) ∧ w'.cell? ⟨w.heap.size, 2, none⟩ = some (.int .i64 (z.safe : Int)) ∧ w'.cell? ⟨w.heap.size, 3, none⟩ = some (.int .i64 z.state) ∧ w'.cell? ⟨w.heap.size, 4, none⟩ = some (.bool z.fin)) (go_keep)
    (first | (go_at_call 43; refine (failed_any _ _ _ _ _ _ _ _).mono ?_; rintro e w' ⟨rfl, rfl⟩))
  go_wp2_with fail
  refine bodyPost_ret (v := .tuple #[.agg #[.slice A z.L.length c, .int .i64 z.size, .int .i64 (z.safe : Int), .int .i64 z.state, .bool z.fin], .int .i64 0, .int .i64 (failedOf z.state)]) (by simp [results, Try.results32, go_sem]) rfl ?_
  rw [hfin.out]
  have hB : ∀ o1 o2 o3 o4 : Obj, Below w.heap.size w ((((w.alloc o1).alloc o2).alloc o3).alloc o4).drew := fun _ _ _ _ => (((((Below.refl _ w).alloc (by simp) _).alloc (by simp) _).alloc (by simp; omega) _).alloc (by simp; omega) _).drew
  exact Gave2.mk' (hB _ _ _ _) (hz'.out.below (hB _ _ _ _)).1 (fun g hg => .inl (hz'.out.2 g hg))

set_option maxHeartbeats 1000000 in
theorem append_full (z : Zn Int) (x : Int) (A : Option Addr) (c : Nat) (w : World) (G : Nat → Prop) (hz : At w A c z G) (hf : failedOf z.state = 0) (h2 : z.state = 2) :
    Calls Try.prog 32 #[.agg #[.slice A z.L.length c, .int .i64 z.size, .int .i64 (z.safe : Int), .int .i64 z.state, .bool z.fin], .int .i64 x] w
      (Gave2 w G (z.append x).1 (z.append x).2.1 (z.append x).2.2) := by
  have ef : (failedOf z.state != 0) = false := by simp [hf]
  have e2 : (z.state == 2) = true := by simp [h2]
  have hfin := hide (Zn.append_full x hf h2)
  have hz' := hide hz
  clear hf hz h2
  go_enter Try.func32, Try.ntmps32
  go_wp2_with (go_at_call 43; refine (failed_any _ _ _ _ _ _ _ _).mono ?_; rintro e w' ⟨rfl, rfl⟩)
  refine bodyPost_ret (v := .tuple #[.agg #[.slice A z.L.length c, .int .i64 z.size, .int .i64 (z.safe : Int), .int .i64 z.state, .bool z.fin], .int .i64 0, .int .i64 17]) (by simp [results, Try.results32, go_sem]) rfl ?_
  rw [hfin.out]
  have hB : ∀ o1 o2 o3 : Obj, Below w.heap.size w (((w.alloc o1).alloc o2).alloc o3) := fun _ _ _ => ((((Below.refl _ w).alloc (by simp) _).alloc (by simp) _).alloc (by simp; omega) _)
  exact Gave2.mk' (hB _ _ _) (hz'.out.below (hB _ _ _)).1 (fun g hg => .inl (hz'.out.2 g hg))

theorem app_blocks {wc w1 w2 : World} {g T1 T2 : Nat} {cs cs' : Array Value} {o : Obj} {A1 : Option Addr} {n c1 : Nat} (hb0 : Blk wc g T1 cs) (hb1 : Blk wc (g + 1) T2 cs') (hsz : g + 2 ≤ wc.heap.size)
    (hgrow1 : wc.grownBy w1 (Value.slice none 0 0).ownBlock) (hat1 : (Value.slice A1 n c1).ownBlock = (Value.slice none 0 0).ownBlock ∨ (Value.slice A1 n c1).ownBlock = some wc.heap.size)
    (hgrow2 : (w1.alloc o).grownBy w2 (Value.slice A1 n c1).ownBlock) : Blk w2 g T1 cs ∧ Blk w2 (g + 1) T2 cs' := by
  have hne : ∀ k, k < wc.heap.size → some k ≠ (Value.slice A1 n c1).ownBlock := fun k hk e => by
    rcases hat1 with h | h <;> rw [h] at e
    · simp [Value.ownBlock] at e
    · simp at e; omega
  exact ⟨((hb0.grown hgrow1 (by simp [Value.ownBlock])).alloc o).grown hgrow2 (hne _ (by omega)), ((hb1.grown hgrow1 (by simp [Value.ownBlock])).alloc o).grown hgrow2 (hne _ (by omega))⟩

theorem app_facts {w wc w1 w2 : World} {o : Obj} {A1 A2 : Option Addr} {n n2 c1 c2 : Nat} (hbel : Below w.heap.size w wc) (hsz : w.heap.size + 2 ≤ wc.heap.size)
    (hgrow1 : wc.grownBy w1 (Value.slice none 0 0).ownBlock) (hat1 : (Value.slice A1 n c1).ownBlock = (Value.slice none 0 0).ownBlock ∨ (Value.slice A1 n c1).ownBlock = some wc.heap.size)
    (hgrow2 : (w1.alloc o).grownBy w2 (Value.slice A1 n c1).ownBlock) (hat2 : (Value.slice A2 n2 c2).ownBlock = (Value.slice A1 n c1).ownBlock ∨ (Value.slice A2 n2 c2).ownBlock = some (w1.alloc o).heap.size) :
    Below w.heap.size w w2 ∧ (Value.slice A2 n2 c2).ownBlock ≠ some w.heap.size ∧ (Value.slice A2 n2 c2).ownBlock ≠ some (w.heap.size + 1) ∧ ∀ g, (Value.slice A2 n2 c2).ownBlock = some g → w.heap.size ≤ g := by
  have hs := hgrow1.size
  have h1 : ∀ g, (Value.slice A1 n c1).ownBlock = some g → g = wc.heap.size := fun g e => by
    rcases hat1 with h | h <;> rw [h] at e
    · simp [Value.ownBlock] at e
    · simpa using e.symm
  have h2 : ∀ g, (Value.slice A2 n2 c2).ownBlock = some g → wc.heap.size ≤ g := fun g e => by
    rcases hat2 with h | h <;> rw [h] at e
    · exact Nat.le_of_eq (h1 g e).symm
    · simp at e; omega
  refine ⟨((hbel.grown hgrow1 hbel.size (by simp [Value.ownBlock])).alloc (Nat.le_trans hbel.size hs) _).grown hgrow2 (by simp; omega) (fun k e => by have := h1 k e; omega), fun e => by have := h2 _ e; omega, fun e => by have := h2 _ e; omega, fun g e => by have := h2 g e; omega⟩

set_option maxHeartbeats 1000000 in
theorem append_ok (z : Zn Int) (x : Int) (A : Option Addr) (c : Nat) (w : World) (G : Nat → Prop) (hz : At w A c z G) (hn : z.L.length < 65536) (hf : failedOf z.state = 0) (h2 : ¬ z.state = 2) :
    Calls Try.prog 32 #[.agg #[.slice A z.L.length c, .int .i64 z.size, .int .i64 (z.safe : Int), .int .i64 z.state, .bool z.fin], .int .i64 x] w
      (Gave2 w G (z.append x).1 (z.append x).2.1 (z.append x).2.2) := by
  have ef : (failedOf z.state != 0) = false := by simp [hf]
  have e2 : (z.state == 2) = false := by simp [h2]
  have hz' := hide hz
  have hf' := hide hf
  have h2' := hide h2
  clear hf hz h2
  go_enter Try.func32, Try.ntmps32
  go_upto_region 5 with (go_at_call 43; refine (failed_any _ _ _ _ _ _ _ _).mono ?_; rintro e w' ⟨rfl, rfl⟩)
  go_cut [7] (fun v wx => v = .slice none 0 0 ∧ Blk wx w.heap.size 49 #[.slice A z.L.length c, .int .i64 z.size, .int .i64 (z.safe : Int), .int .i64 z.state, .bool z.fin] ∧
    Blk wx (w.heap.size + 1) 49 #[.slice none 0 0, .int .i64 0, .int .i64 0, .int .i64 0, .bool false] ∧ Below w.heap.size w wx ∧ w.heap.size + 2 ≤ wx.heap.size)
  case first =>
    go_wp2_with fail
    go_meet
    refine ⟨rfl, ((Blk.new w _ _).alloc _).alloc _, ?_, (((Below.refl _ w).alloc (by simp) _).alloc (by simp) _).alloc (by simp; omega) _, by simp⟩
    have := Blk.new (w.alloc (.cells #[.slice A z.L.length c, .int .i64 z.size, .int .i64 (z.safe : Int), .int .i64 z.state, .bool z.fin] 49)) 49 #[.slice none 0 0, .int .i64 0, .int .i64 0, .int .i64 0, .bool false]
    rw [World.size_alloc] at this
    exact this.alloc _
  case rest =>
    obtain ⟨rfl, hb0, hb1, hbel, hsz⟩ := hcut
    obtain ⟨i0, hi, hz0, hz1, hz2⟩ := info_parts infoE
    obtain ⟨k0, k1, k2, k3, k4, f0, f1, f2, f3, f4⟩ := hb0.five
    obtain ⟨m0, m1, m2, m3, m4, g0, g1, g2, g3, g4⟩ := hb1.five
    have hz1' := (hz'.out.below hbel).1
    have hone : ∀ u ∈ z.L.map (Value.int .i64), u.oneCell' = true := fun u hu => by obtain ⟨y, _, rfl⟩ := List.mem_map.1 hu; rfl
    have Hone := hide hone
    clear hone
    have el : ∀ v : Bool, v = decide (((z.L.length + 1 : Nat) : Int) = z.size) → (((z.L.length + 1 : Nat) : Int) == z.size) = v ∧ ((z.L.length : Int) + 1 == z.size) = v := fun v hv => by subst hv; constructor <;> (rw [Bool.eq_iff_iff]; simp)
    by_cases hl : ((z.L.length + 1 : Nat) : Int) = z.size
    · obtain ⟨el1, el2⟩ := el true (by simpa using hl)
      have hfin := hide (Zn.append_last x hf'.out h2'.out hl)
      clear hl el
      go_upto_region 11 with (first | (at_builtin; refine wpList_append_src _ rfl (.tmp 18) (.tmp 20) 39 rfl wc.heap.size 3 i0 _ 1 8 Try.underlying39 hi hz0 hz1 hz2 rfl (by decide) (.slice none 0 0) 0 [] rfl (World.ownsRow_nil _ _ _ _) A z.L.length c (z.L.map (Value.int .i64)) rfl hz1' Hone.out (by unfold maxLen; omega) (by omega) (Nat.le_refl _) ?_; intro v1 w1 hown1 hgrow1 hat1; simp only [Nat.zero_add, List.nil_append] at hown1 hat1; obtain ⟨A1, c1, rfl⟩ := own_form hown1) | (at_builtin; refine wpList_append_own_at _ rfl (.tmp 22) (.tmp 24) 39 rfl 0 3 i0 _ 1 8 Try.underlying39 hi hz0 hz1 hz2 rfl (by decide) (.slice A1 z.L.length c1) _ _ rfl (own_base (hown1.alloc _)) ⟨w1.heap.size, 0, none⟩ 1 1 [.int .i64 x] rfl rfl (cell_one_new _ _ _) (by simp [Value.oneCell']) (by unfold maxLen; omega) (by omega) (by simp) ?_; intro v2 w2 hown2 hgrow2 hnil2 hat2; obtain ⟨A2, c2, rfl⟩ := own_form hown2; clear k0 k1 k2 k3 k4 f0 f1 f2 f3 f4 m0 m1 m2 m3 m4 g0 g1 g2 g3 g4; obtain ⟨hb0', hb1'⟩ := app_blocks hb0 hb1 hsz hgrow1 hat1 hgrow2; obtain ⟨hbel2, hne2, hne3, hge2⟩ := app_facts hbel hsz hgrow1 hat1 hgrow2 hat2; clear hgrow1 hat1 hgrow2 hat2 hnil2 hown1 hbel hb0 hb1 hz1'; obtain ⟨k0, k1, k2, k3, k4, f0, f1, f2, f3, f4⟩ := hb0'.five; obtain ⟨m0, m1, m2, m3, m4, g0, g1, g2, g3, g4⟩ := hb1'.five))
      obtain ⟨W3, hW3⟩ : ∃ W3 : World, W3 = (((w2.setCell ⟨w.heap.size, 0, none⟩ (.slice A2 (z.L.length + 1) c2)).setCell ⟨w.heap.size, 3, none⟩ (.int .i64 1)).setCell ⟨w.heap.size, 3, none⟩ (.int .i64 2)) := ⟨_, rfl⟩
      have hb0 : Blk W3 w.heap.size 49 #[.slice A2 (z.L.length + 1) c2, .int .i64 z.size, .int .i64 (z.safe : Int), .int .i64 2, .bool z.fin] := by rw [hW3]; exact ((hb0'.set_ 0 _).set_ 3 _).set_ 3 _
      have hb1 : Blk W3 (w.heap.size + 1) 49 #[.slice none 0 0, .int .i64 0, .int .i64 0, .int .i64 0, .bool false] := by rw [hW3]; exact (((hb1').far (p := ⟨w.heap.size, 0, none⟩) (by simp) _).far (p := ⟨w.heap.size, 3, none⟩) (by simp) _).far (p := ⟨w.heap.size, 3, none⟩) (by simp) _
      have hbel3 : Below w.heap.size w W3 := by rw [hW3]; exact (((hbel2).setCell (p := ⟨w.heap.size, 0, none⟩) (Nat.le_refl _) _).setCell (p := ⟨w.heap.size, 3, none⟩) (Nat.le_refl _) _).setCell (p := ⟨w.heap.size, 3, none⟩) (Nat.le_refl _) _
      have hown3 : W3.ownsRow 0 3 1 (.slice A2 (z.L.length + 1) c2) (z.L.length + 1) (z.L.map (Value.int .i64) ++ [.int .i64 x]) := by rw [hW3]; exact own_setCell (own_setCell (own_setCell (hown2) hne2 _) hne2 _) hne2 _
      rw [← hW3]
      clear hW3 hb0' hb1' k0 k1 k2 k3 k4 f0 f1 f2 f3 f4 m0 m1 m2 m3 m4 g0 g1 g2 g3 g4 hown2 hbel2
      obtain ⟨k0, k1, k2, k3, k4, f0, f1, f2, f3, f4⟩ := hb0.five
      obtain ⟨m0, m1, m2, m3, m4, g0, g1, g2, g3, g4⟩ := hb1.five
      go_region
      go_wp2_with fail
      refine bodyPost_ret (v := .tuple #[.agg #[.slice A2 (z.L.length + 1) c2, .int .i64 z.size, .int .i64 (z.safe : Int), .int .i64 2, .bool z.fin], .int .i64 z.L.length, .int .i64 0]) (by simp [results, Try.results32, go_sem, m0, m1, m2, m3, m4]) rfl ?_
      rw [hfin.out]
      refine ⟨A2, c2, ?_, ⟨?_, ?_⟩, ?_⟩
      · simp only [List.length_append, List.length_cons, List.length_nil]
      · simp only [List.length_append, List.length_cons, List.length_nil, List.map_append, List.map_cons, List.map_nil]
        repeat (first | with_reducible exact hown3 | with_reducible refine own_setCell ?_ hne3 _ | with_reducible refine World.ownsRow.drew ?_)
      · intro g hg
        simp only [List.length_append, List.length_cons, List.length_nil] at hg
        exact .inr (hge2 g hg)
      · repeat (first | with_reducible exact hbel3 | with_reducible refine Below.setCell ?_ (Nat.le_succ _) _ | with_reducible refine Below.drew ?_)
    · obtain ⟨el1, el2⟩ := el false (by simpa using hl)
      have hfin := hide (Zn.append_more x hf'.out h2'.out hl)
      clear hl el
      go_upto_region 11 with (first | (at_builtin; refine wpList_append_src _ rfl (.tmp 18) (.tmp 20) 39 rfl wc.heap.size 3 i0 _ 1 8 Try.underlying39 hi hz0 hz1 hz2 rfl (by decide) (.slice none 0 0) 0 [] rfl (World.ownsRow_nil _ _ _ _) A z.L.length c (z.L.map (Value.int .i64)) rfl hz1' Hone.out (by unfold maxLen; omega) (by omega) (Nat.le_refl _) ?_; intro v1 w1 hown1 hgrow1 hat1; simp only [Nat.zero_add, List.nil_append] at hown1 hat1; obtain ⟨A1, c1, rfl⟩ := own_form hown1) | (at_builtin; refine wpList_append_own_at _ rfl (.tmp 22) (.tmp 24) 39 rfl 0 3 i0 _ 1 8 Try.underlying39 hi hz0 hz1 hz2 rfl (by decide) (.slice A1 z.L.length c1) _ _ rfl (own_base (hown1.alloc _)) ⟨w1.heap.size, 0, none⟩ 1 1 [.int .i64 x] rfl rfl (cell_one_new _ _ _) (by simp [Value.oneCell']) (by unfold maxLen; omega) (by omega) (by simp) ?_; intro v2 w2 hown2 hgrow2 hnil2 hat2; obtain ⟨A2, c2, rfl⟩ := own_form hown2; clear k0 k1 k2 k3 k4 f0 f1 f2 f3 f4 m0 m1 m2 m3 m4 g0 g1 g2 g3 g4; obtain ⟨hb0', hb1'⟩ := app_blocks hb0 hb1 hsz hgrow1 hat1 hgrow2; obtain ⟨hbel2, hne2, hne3, hge2⟩ := app_facts hbel hsz hgrow1 hat1 hgrow2 hat2; clear hgrow1 hat1 hgrow2 hat2 hnil2 hown1 hbel hb0 hb1 hz1'; obtain ⟨k0, k1, k2, k3, k4, f0, f1, f2, f3, f4⟩ := hb0'.five; obtain ⟨m0, m1, m2, m3, m4, g0, g1, g2, g3, g4⟩ := hb1'.five))
      obtain ⟨W3, hW3⟩ : ∃ W3 : World, W3 = ((w2.setCell ⟨w.heap.size, 0, none⟩ (.slice A2 (z.L.length + 1) c2)).setCell ⟨w.heap.size, 3, none⟩ (.int .i64 1)) := ⟨_, rfl⟩
      have hb0 : Blk W3 w.heap.size 49 #[.slice A2 (z.L.length + 1) c2, .int .i64 z.size, .int .i64 (z.safe : Int), .int .i64 1, .bool z.fin] := by rw [hW3]; exact (hb0'.set_ 0 _).set_ 3 _
      have hb1 : Blk W3 (w.heap.size + 1) 49 #[.slice none 0 0, .int .i64 0, .int .i64 0, .int .i64 0, .bool false] := by rw [hW3]; exact ((hb1').far (p := ⟨w.heap.size, 0, none⟩) (by simp) _).far (p := ⟨w.heap.size, 3, none⟩) (by simp) _
      have hbel3 : Below w.heap.size w W3 := by rw [hW3]; exact ((hbel2).setCell (p := ⟨w.heap.size, 0, none⟩) (Nat.le_refl _) _).setCell (p := ⟨w.heap.size, 3, none⟩) (Nat.le_refl _) _
      have hown3 : W3.ownsRow 0 3 1 (.slice A2 (z.L.length + 1) c2) (z.L.length + 1) (z.L.map (Value.int .i64) ++ [.int .i64 x]) := by rw [hW3]; exact own_setCell (own_setCell (hown2) hne2 _) hne2 _
      rw [← hW3]
      clear hW3 hb0' hb1' k0 k1 k2 k3 k4 f0 f1 f2 f3 f4 m0 m1 m2 m3 m4 g0 g1 g2 g3 g4 hown2 hbel2
      obtain ⟨k0, k1, k2, k3, k4, f0, f1, f2, f3, f4⟩ := hb0.five
      obtain ⟨m0, m1, m2, m3, m4, g0, g1, g2, g3, g4⟩ := hb1.five
      go_region
      go_wp2_with fail
      refine bodyPost_ret (v := .tuple #[.agg #[.slice A2 (z.L.length + 1) c2, .int .i64 z.size, .int .i64 (z.safe : Int), .int .i64 1, .bool z.fin], .int .i64 z.L.length, .int .i64 0]) (by simp [results, Try.results32, go_sem, m0, m1, m2, m3, m4]) rfl ?_
      rw [hfin.out]
      refine ⟨A2, c2, ?_, ⟨?_, ?_⟩, ?_⟩
      · simp only [List.length_append, List.length_cons, List.length_nil]
      · simp only [List.length_append, List.length_cons, List.length_nil, List.map_append, List.map_cons, List.map_nil]
        repeat (first | with_reducible exact hown3 | with_reducible refine own_setCell ?_ hne3 _ | with_reducible refine World.ownsRow.drew ?_)
      · intro g hg
        simp only [List.length_append, List.length_cons, List.length_nil] at hg
        exact .inr (hge2 g hg)
      · repeat (first | with_reducible exact hbel3 | with_reducible refine Below.setCell ?_ (Nat.le_succ _) _ | with_reducible refine Below.drew ?_)
end Go.Proofs.Ytahlphclighccaa.R06
