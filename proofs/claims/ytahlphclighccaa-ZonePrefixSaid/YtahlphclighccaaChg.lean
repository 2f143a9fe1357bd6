/-
  Change: of a zone (with the closure that puts a number in by exclusive or), and of the document's zone.
-/
import Derived.Test.YtahlphclighccaaZIC
import Derived.Test.YtahlphclighccaaR06c
import Derived.StillTailTactics
namespace Go.Proofs.Ytahlphclighccaa
open Go.RowKit

/-- The exclusive or of two ints. -/
def xor64 (a b : Int) : Int := bits .xor .i64 a b

set_option maxHeartbeats 400000 in
theorem clos_any (v y : Int) (bo : Nat) (w : World) (hc : w.cell? ⟨bo, 2, none⟩ = some (.int .i64 y)) :
    Calls Try.prog 40 #[.int .i64 v, .pointer (some ⟨bo, 0, none⟩)] w fun e w' => e = .returned (.int .i64 (xor64 v y)) ∧ w = w' := by
  go_enter Try.func40, Try.ntmps40
  go_wp2
  go_ret
  exact ⟨rfl, rfl⟩

namespace ZI
set_option maxHeartbeats 1000000 in
theorem change_any (z : Zn Int) (off y : Int) (b bo : Nat) (w : World) (F : Nat → Prop) (hz : At w b z F) (_hn : z.L.length < 65536) (ho : w.cell? ⟨bo, 2, none⟩ = some (.int .i64 y)) :
    Calls Try.prog 39 #[.pointer (some ⟨b, 0, none⟩), .int .i64 off, .func (.func 40) #[] #[.pointer (some ⟨bo, 0, none⟩)]] w fun e w' =>
      e = .returned (.int .i64 (z.change (xor64 · y) off).2) ∧ Does w w' b (z.change (xor64 · y) off).1 F := by
  have hz' := hide hz
  obtain ⟨A, c, hb, hFb, hown, hg, hlt⟩ := hz
  have c0 : w.cell? ⟨b, 0, none⟩ = _ := hb.cell 0
  simp only [List.getElem?_toArray, List.getElem?_cons_zero] at c0
  by_cases hlo : off < 0
  · have hfin := hide (Zn.change_out (z := z) (xor64 · y) off (.inl hlo))
    go_enter Try.func39, Try.ntmps39
    go_wp2
    go_ret
    rw [hfin.out]
    exact ⟨rfl, Did.same hz'.out⟩
  · by_cases hhi : (z.L.length : Int) ≤ off
    · have hfin := hide (Zn.change_out (z := z) (xor64 · y) off (.inr hhi))
      go_enter Try.func39, Try.ntmps39
      go_wp2
      go_ret
      rw [hfin.out]
      exact ⟨rfl, Did.same hz'.out⟩
    · obtain ⟨k, rfl⟩ := Int.eq_ofNat_of_zero_le (Int.not_lt.1 hlo)
      have hk : k < z.L.length := by omega
      obtain ⟨g, c', c0', hc', ck⟩ := row_cell hz'.out k hk
      have hA : A = some ⟨g, 0, none⟩ ∧ c = c' := by
        have := c0.symm.trans c0'
        simpa using this
      obtain ⟨rfl, rfl⟩ := hA
      have fk := hown.frozenAt k
      have hfin := hide (Zn.change_in (z := z) (xor64 · y) k hk)
      have hst := (hown.stored k (.int .i64 (xor64 z.L[k] y))).1
      have hgF := hg g rfl
      have hcl : Hid (Calls Try.prog 40 #[.int .i64 z.L[k], .pointer (some ⟨bo, 0, none⟩)] w.drew fun e w'' => e = .returned (.int .i64 (xor64 z.L[k] y)) ∧ w'' = w.drew) :=
        hide ((clos_any _ y bo w.drew ho).mono (fun _ _ h => ⟨h.1, h.2.symm⟩))
      clear c0'
      go_enter Try.func39, Try.ntmps39
      go_upto_region 3 with (fail)
      refine wp_region_still_tail 15 (by kernel_rfl) (by kernel_rfl) ?_
      simp only [List.take_succ_cons, List.take_zero, List.drop_succ_cons, List.drop_zero]
      repeat still_step
      still_call hcl.out
      repeat still_step
      refine wpStill_nil ?_
      change wpList _ _ _ _ _ w.drew
      have ckd : w.drew.cell? ⟨g, k, none⟩ = some (.int .i64 z.L[k]) := ck
      have fkd : w.drew.frozen? ⟨g, k, none⟩ = false := fk
      go_wp2_with fail
      go_ret
      rw [hfin.out]
      refine ⟨rfl, ?_⟩
      have hl : (z.L.set k (xor64 z.L[k] y)).length = z.L.length := by simp
      refine Did.mk' (A := some ⟨g, 0, none⟩) (c := c) (z' := { z with L := z.L.set k (xor64 z.L[k] y) }) ?_ ?_ hFb ?_ ?_ hlt
      · simp only [hl]; exact (hb.drew.far (p := ⟨g, k, none⟩) (fun e => hgF.2 e.symm) _)
      · exact ((Mods.refl F w).drew).setCell (.inl hgF.1) _
      · simp only [hl]
        have := hst
        rw [← List.map_set] at this
        exact this
      · simp only [hl]
        exact fun g' hg' => .inl (hg g' hg')
end ZI

namespace R06
theorem change_out (z : Zn Int) (off y : Int) (A : Option Addr) (c : Nat) (w : World) (G : Nat → Prop) (hz : At w A c z G) (h : off < 0 ∨ (z.L.length : Int) ≤ off) :
    Calls Try.prog 41 #[.agg #[.slice A z.L.length c, .int .i64 z.size, .int .i64 (z.safe : Int), .int .i64 z.state, .bool z.fin], .int .i64 off, .int .i64 y] w (Gave1 w G (z.change (xor64 · y) off).1 (z.change (xor64 · y) off).2) := by
  have hz' := hide hz
  clear hz
  have hfin := hide (Zn.change_out (z := z) (xor64 · y) off h)
  have hB : ∀ o1 o2 : Obj, Below w.heap.size w ((w.alloc o1).alloc o2) := fun _ _ => (((Below.refl _ w).alloc (by simp) _).alloc (by simp) _)
  have HB := hide hB
  clear hB
  by_cases hlo : off < 0
  · clear h
    go_enter Try.func41, Try.ntmps41
    go_wp2
    refine bodyPost_ret (v := .tuple #[.agg #[.slice A z.L.length c, .int .i64 z.size, .int .i64 (z.safe : Int), .int .i64 z.state, .bool z.fin], .int .i64 31]) (by simp [results, Try.results41, go_sem]) rfl ?_
    rw [hfin.out]
    exact Gave1.mk' (HB.out _ _) (hz'.out.below (HB.out _ _)).1 (fun g hg => .inl (hz'.out.2 g hg))
  · have hhi : (z.L.length : Int) ≤ off := by omega
    clear h
    go_enter Try.func41, Try.ntmps41
    go_wp2
    refine bodyPost_ret (v := .tuple #[.agg #[.slice A z.L.length c, .int .i64 z.size, .int .i64 (z.safe : Int), .int .i64 z.state, .bool z.fin], .int .i64 31]) (by simp [results, Try.results41, go_sem]) rfl ?_
    rw [hfin.out]
    exact Gave1.mk' (HB.out _ _) (hz'.out.below (HB.out _ _)).1 (fun g hg => .inl (hz'.out.2 g hg))

set_option maxHeartbeats 1000000 in
theorem change_in (z : Zn Int) (k : Nat) (y : Int) (A : Option Addr) (c : Nat) (w : World) (G : Nat → Prop) (hz : At w A c z G) (hn : z.L.length < 65536) (hk : k < z.L.length) :
    Calls Try.prog 41 #[.agg #[.slice A z.L.length c, .int .i64 z.size, .int .i64 (z.safe : Int), .int .i64 z.state, .bool z.fin], .int .i64 (k : Int), .int .i64 y] w (Gave1 w G (z.change (xor64 · y) k).1 (z.change (xor64 · y) k).2) := by
  have hz' := hide hz
  clear hz
  have hfin := hide (Zn.change_in (z := z) (xor64 · y) k hk)
  go_enter Try.func41, Try.ntmps41
  go_upto_region 3 with (fail)
  go_cut [8] (fun v wx => v = .slice none 0 0 ∧ Blk wx w.heap.size 49 #[.slice A z.L.length c, .int .i64 z.size, .int .i64 (z.safe : Int), .int .i64 z.state, .bool z.fin] ∧
    Blk wx (w.heap.size + 1) 49 #[.slice none 0 0, .int .i64 0, .int .i64 0, .int .i64 0, .bool false] ∧ Below w.heap.size w wx ∧ w.heap.size + 2 ≤ wx.heap.size)
  case first =>
    go_wp2_with fail
    go_meet
    refine ⟨rfl, (Blk.new w _ _).alloc _, ?_, ((Below.refl _ w).alloc (by simp) _).alloc (by simp) _, by simp⟩
    have := Blk.new (w.alloc (.cells #[.slice A z.L.length c, .int .i64 z.size, .int .i64 (z.safe : Int), .int .i64 z.state, .bool z.fin] 49)) 49 #[.slice none 0 0, .int .i64 0, .int .i64 0, .int .i64 0, .bool false]
    rw [World.size_alloc] at this
    exact this
  case rest =>
    obtain ⟨rfl, hb0, hb1, hbel, hsz⟩ := hcut
    obtain ⟨i0, hi, hz0, hz1, hz2⟩ := info_parts infoE
    obtain ⟨k0, k1, k2, k3, k4, f0, f1, f2, f3, f4⟩ := hb0.five
    have hz1' := (hz'.out.below hbel).1
    have hone : ∀ u ∈ z.L.map (Value.int .i64), u.oneCell' = true := fun u hu => by obtain ⟨y, _, rfl⟩ := List.mem_map.1 hu; rfl
    have Hone := hide hone
    clear hone
    go_upto_region 5 with (at_builtin; refine wpList_append_src _ rfl (.tmp 19) (.tmp 21) 39 rfl wc.heap.size 3 i0 _ 1 8 Try.underlying39 hi hz0 hz1 hz2 rfl (by decide) (.slice none 0 0) 0 [] rfl (World.ownsRow_nil _ _ _ _) A z.L.length c (z.L.map (Value.int .i64)) rfl hz1' Hone.out (by unfold maxLen; omega) (by omega) (Nat.le_refl _) ?_; intro v1 w1 hown1 hgrow1 hat1; simp only [Nat.zero_add, List.nil_append] at hown1 hat1; obtain ⟨A1, c1, rfl⟩ := own_form hown1)
    obtain ⟨g1, rfl⟩ : ∃ g1, A1 = some ⟨g1, 0, none⟩ := by
      rcases hown1.2 with ⟨h, h0⟩ | ⟨g, cap, cur, h, _⟩
      · omega
      · simp only [Value.slice.injEq, true_and] at h
        exact ⟨g, h.1⟩
    have hge : wc.heap.size ≤ g1 := (hown1.lt g1 rfl).1
    have ck : w1.cell? ⟨g1, k, none⟩ = some (.int .i64 z.L[k]) := by rw [hown1.cellAt k (by omega)]; simp [hk]
    have fk := hown1.frozenAt k
    have hst := (hown1.stored k (.int .i64 (xor64 z.L[k] y))).1
    have hb0' := (hb0.grown hgrow1 (by simp [Value.ownBlock])).far (p := ⟨g1, k, none⟩) (by show w.heap.size ≠ g1; omega) (.int .i64 (xor64 z.L[k] y))
    have hb1' := (hb1.grown hgrow1 (by simp [Value.ownBlock])).far (p := ⟨g1, k, none⟩) (by show w.heap.size + 1 ≠ g1; omega) (.int .i64 (xor64 z.L[k] y))
    have hbel1 := (hbel.grown hgrow1 hbel.size (by simp [Value.ownBlock])).setCell (p := ⟨g1, k, none⟩) (by show w.heap.size ≤ g1; omega) (.int .i64 (xor64 z.L[k] y))
    clear k0 k1 k2 k3 k4 f0 f1 f2 f3 f4 hz1' hgrow1 hat1 hb0 hb1 hbel hown1
    go_upto_region 6 with (fail)
    obtain ⟨W3, hW3⟩ : ∃ W3 : World, W3 = w1.setCell ⟨g1, k, none⟩ (.int .i64 (bits .xor .i64 z.L[k] y)) := ⟨_, rfl⟩
    have hc0 : Blk W3 w.heap.size 49 #[.slice A z.L.length c, .int .i64 z.size, .int .i64 (z.safe : Int), .int .i64 z.state, .bool z.fin] := by rw [hW3]; exact hb0'
    have hc1 : Blk W3 (w.heap.size + 1) 49 #[.slice none 0 0, .int .i64 0, .int .i64 0, .int .i64 0, .bool false] := by rw [hW3]; exact hb1'
    have hbel3 : Below w.heap.size w W3 := by rw [hW3]; exact hbel1
    have hown3 : W3.ownsRow 0 3 1 (.slice (some ⟨g1, 0, none⟩) z.L.length c1) z.L.length ((z.L.map (Value.int .i64)).set k (.int .i64 (xor64 z.L[k] y))) := by rw [hW3]; exact own_base hst
    rw [← hW3]
    clear hW3 hb0' hb1' hbel1 hst ck fk
    obtain ⟨k0, k1, k2, k3, k4, f0, f1, f2, f3, f4⟩ := hc0.five
    obtain ⟨m0, m1, m2, m3, m4, g0, g1', g2, g3, g4⟩ := hc1.five
    clear hc0 hc1
    have hne0 : (Value.slice (some ⟨g1, 0, none⟩) z.L.length c1).ownBlock ≠ some w.heap.size := fun e => by simp [Value.ownBlock] at e; omega
    have hne1 : (Value.slice (some ⟨g1, 0, none⟩) z.L.length c1).ownBlock ≠ some (w.heap.size + 1) := fun e => by simp [Value.ownBlock] at e; omega
    go_wp2_with fail
    refine bodyPost_ret (v := .tuple #[.agg #[.slice (some ⟨g1, 0, none⟩) z.L.length c1, .int .i64 z.size, .int .i64 (z.safe : Int), .int .i64 z.state, .bool z.fin], .int .i64 0]) (by simp [results, Try.results41, go_sem, m0, m1, m2, m3, m4]) rfl ?_
    rw [hfin.out]
    have hl : (z.L.set k (xor64 z.L[k] y)).length = z.L.length := by simp
    refine ⟨some ⟨g1, 0, none⟩, c1, by simp only [hl], ⟨?_, ?_⟩, ?_⟩
    · simp only [hl, List.map_set]
      repeat (first | with_reducible exact hown3 | refine own_setCell ?_ hne0 _ | refine own_setCell ?_ hne1 _)
    · simp only [hl]
      intro g hg
      simp [Value.ownBlock] at hg
      right; omega
    · repeat (first | with_reducible exact hbel3 | refine Below.setCell ?_ (by simp) _)

theorem change_any (z : Zn Int) (off y : Int) (A : Option Addr) (c : Nat) (w : World) (G : Nat → Prop) (hz : At w A c z G) (hn : z.L.length < 65536) :
    Calls Try.prog 41 #[.agg #[.slice A z.L.length c, .int .i64 z.size, .int .i64 (z.safe : Int), .int .i64 z.state, .bool z.fin], .int .i64 off, .int .i64 y] w (Gave1 w G (z.change (xor64 · y) off).1 (z.change (xor64 · y) off).2) := by
  by_cases h : off < 0 ∨ (z.L.length : Int) ≤ off
  · exact change_out z off y A c w G hz h
  · obtain ⟨k, rfl⟩ := Int.eq_ofNat_of_zero_le (show 0 ≤ off by omega)
    exact change_in z k y A c w G hz hn (by omega)

theorem append_any (z : Zn Int) (x : Int) (A : Option Addr) (c : Nat) (w : World) (G : Nat → Prop) (hz : At w A c z G) (hn : z.L.length < 65536) :
    Calls Try.prog 32 #[.agg #[.slice A z.L.length c, .int .i64 z.size, .int .i64 (z.safe : Int), .int .i64 z.state, .bool z.fin], .int .i64 x] w
      (Gave2 w G (z.append x).1 (z.append x).2.1 (z.append x).2.2) := by
  by_cases hf : failedOf z.state = 0
  · by_cases h2 : z.state = 2
    · exact append_full z x A c w G hz hf h2
    · exact append_ok z x A c w G hz hn hf h2
  · exact append_no z x A c w G hz hf
end R06
end Go.Proofs.Ytahlphclighccaa
