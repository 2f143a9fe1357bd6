/-
  The document's device: opened and put.
-/
import Derived.Test.YtdinbhanekpjoaaR07
namespace Go.Proofs.Ytdinbhanekpjoaa
open Go.RowKit

theorem setAll_rz (l : List RZ) (k : Nat) (hk : k < l.length) (x : RZ) : setAll (l.flatMap RZ.cells) (k * 4) x.cells = (l.set k x).flatMap RZ.cells := by
  apply List.ext_getElem?
  intro i
  have hl := rz_length l
  have hx : x.cells.length = 4 := rfl
  rw [setAll_get _ _ _ _ (by rw [hl, hx]; omega), hx]
  by_cases hi : i < l.length * 4
  · obtain ⟨q, r, hr, rfl⟩ : ∃ q r, r < 4 ∧ i = q * 4 + r := ⟨i / 4, i % 4, Nat.mod_lt _ (by omega), by omega⟩
    have hq : q < l.length := by omega
    rw [rz_get l q hq r hr, rz_get (l.set k x) q (by simpa using hq) r hr]
    by_cases hqk : k = q
    · subst hqk
      rw [if_pos ⟨by omega, by omega⟩, show k * 4 + r - k * 4 = r by omega]
      simp
    · rw [if_neg (by omega), List.getElem_set_ne hqk]
  · rw [if_neg (by omega), List.getElem?_eq_none (by rw [hl]; omega), List.getElem?_eq_none (by rw [rz_length, List.length_set]; omega)]

namespace R7
section
variable {w : World} {D : Dv} {A : Option Addr} {c : Nat} {es : List RZ} {G : Nat → Prop}
theorem sizeD : (Try.prog.info? 31).map (·.size) = some 5 := by kernel_rfl
theorem sizeZ : (Try.prog.info? 93).map (·.size) = some 4 := by kernel_rfl
theorem infoZ : (Try.prog.info? 93).map (fun i => (i.zero, i.size, i.bytes)) = some (some (.agg #[.slice none 0 0, .int .i64 0, .int .i64 0, .bool false]), 4, 48) := by kernel_rfl

set_option maxHeartbeats 400000 in
theorem opened_any (h : RefIs w D A c es G) (hl : D.zs.length < 65536) : Calls Try.prog 85 #[.agg #[.slice A D.zs.length c, .int .i64 D.size, .int .i64 D.op, .int .i64 (D.n : Int), .bool D.down]] w fun e w' =>
    e = .returned (.int .i64 (D.opened : Int)) ∧ w.alloc (.cells #[.slice A D.zs.length c, .int .i64 D.size, .int .i64 D.op, .int .i64 (D.n : Int), .bool D.down] 31) = w' := by
  have h' := hide (h.below ((Below.refl _ w).alloc (Nat.le_refl _) (.cells #[.slice A D.zs.length c, .int .i64 D.size, .int .i64 D.op, .int .i64 (D.n : Int), .bool D.down] 31)))
  have hb := Blk.new w 31 #[.slice A D.zs.length c, .int .i64 D.size, .int .i64 D.op, .int .i64 (D.n : Int), .bool D.down]
  clear h
  go_enter Try.func85, Try.ntmps85
  go_wp2_with fail
  obtain ⟨W1, hW⟩ : ∃ W1, W1 = w.alloc (.cells #[.slice A D.zs.length c, .int .i64 D.size, .int .i64 D.op, .int .i64 (D.n : Int), .bool D.down] 31) := ⟨_, rfl⟩
  rw [← hW] at h' hb ⊢
  have c0 : W1.cell? ⟨w.heap.size, 0, none⟩ = some (.slice A D.zs.length c) := hb.cell 0
  have HW := hide hW
  clear hW hb
  go_loop [3, 4] (fun n i => ∃ k : Nat, k ≤ D.zs.length ∧ i = .int .i64 k ∧ n = .int .i64 (D.countTo k : Int)) (fun _ i => D.zs.length - (intOf i).toNat)
  case atStart => exact ⟨0, by omega, rfl, by rw [Dv.countTo_zero]; rfl⟩
  case round =>
    obtain ⟨k, hk, rfl, rfl⟩ := hrel
    have hcl := D.countTo_le k
    by_cases hlt : k < D.zs.length
    · have Hsn := hide (D.countTo_succ k hlt)
      obtain ⟨g, rfl, hlc, -, hk', -, -, -, x2, -⟩ := h'.out.at_ hlt
      by_cases hs : D.zs[k].state = 1
      · have es : (D.zs[k].state == 1) = true := beq_iff_eq.2 hs
        have Hs1 := hide hs
        clear hs
        go_wp2_with fail
        go_round
        case rel => exact ⟨k + 1, by omega, by go_num, by rw [Hsn.out, if_pos Hs1.out]; go_num⟩
        case measure => simp [intOf]; omega
      · have es : (D.zs[k].state == 1) = false := beq_eq_false_iff_ne.2 hs
        have Hs1 := hide hs
        clear hs
        go_wp2_with fail
        go_round
        case rel => exact ⟨k + 1, by omega, by go_num, by rw [Hsn.out, if_neg Hs1.out]; rfl⟩
        case measure => simp [intOf]; omega
    · obtain rfl : k = D.zs.length := by omega
      have Ha := hide (D.countTo_all)
      go_wp2_with fail
      go_ret
      rw [Ha.out]
      exact ⟨rfl, HW.out.symm⟩

/-- What put hands back. -/
def Put (w : World) (G : Nat → Prop) (D' : Dv) (e : Ending) (w' : World) : Prop :=
  ∃ A c es, e = .returned (.agg #[.slice A D'.zs.length c, .int .i64 D'.size, .int .i64 D'.op, .int .i64 (D'.n : Int), .bool D'.down]) ∧ RefIs w' D' A c es (fun k => G k ∨ w.heap.size ≤ k) ∧ Below w.heap.size w w'

set_option maxRecDepth 100000 in
set_option maxHeartbeats 1000000 in
theorem put_any (h : RefIs w D A c es G) (hl : D.zs.length < 65536) (k : Nat) (hk : k < D.zs.length) (x : RZ) (hx : w.ownsRow 0 33 64 (.slice x.a x.z.L.length x.c) x.z.L.length (x.z.L.flatMap Sec.cs)) (hxG : ∀ g, (Value.slice x.a x.z.L.length x.c).ownBlock = some g → G g) :
    Calls Try.prog 87 #[.agg #[.slice A D.zs.length c, .int .i64 D.size, .int .i64 D.op, .int .i64 (D.n : Int), .bool D.down], .int .i64 (k : Int), .agg #[.slice x.a x.z.L.length x.c, .int .i64 (x.z.safe : Int), .int .i64 x.z.state, .bool x.z.fin]] w (Put w G (D.put k x.z)) := by
  obtain ⟨i0, hi, hz0, hz1, hz2⟩ := info_parts infoZ
  obtain ⟨hk', hez⟩ := h.get hk
  have hel := h.len
  have h' := hide h
  have hx' := hide hx
  have hxG' := hide hxG
  clear h hx hxG
  go_enter Try.func87, Try.ntmps87
  go_upto_region 2 with (fail)
  have hB : Below w.heap.size w (((w.alloc (.cells #[.slice A D.zs.length c, .int .i64 D.size, .int .i64 D.op, .int .i64 (D.n : Int), .bool D.down] 31)).alloc (.cells #[.slice x.a x.z.L.length x.c, .int .i64 (x.z.safe : Int), .int .i64 x.z.state, .bool x.z.fin] 93)).alloc (.cells #[.slice none 0 0, .int .i64 0, .int .i64 0, .int .i64 0, .bool false] 31)) := (((Below.refl _ w).alloc (Nat.le_refl _) _).alloc (by simp) _).alloc (by simp; omega) _
  have k0 := ((Blk.new w 31 #[.slice A D.zs.length c, .int .i64 D.size, .int .i64 D.op, .int .i64 (D.n : Int), .bool D.down]).alloc (.cells #[.slice x.a x.z.L.length x.c, .int .i64 (x.z.safe : Int), .int .i64 x.z.state, .bool x.z.fin] 93)).alloc (.cells #[.slice none 0 0, .int .i64 0, .int .i64 0, .int .i64 0, .bool false] 31)
  have k1 := (Blk.new (w.alloc (.cells #[.slice A D.zs.length c, .int .i64 D.size, .int .i64 D.op, .int .i64 (D.n : Int), .bool D.down] 31)) 93 #[.slice x.a x.z.L.length x.c, .int .i64 (x.z.safe : Int), .int .i64 x.z.state, .bool x.z.fin]).alloc (.cells #[.slice none 0 0, .int .i64 0, .int .i64 0, .int .i64 0, .bool false] 31)
  have k2 := Blk.new ((w.alloc (.cells #[.slice A D.zs.length c, .int .i64 D.size, .int .i64 D.op, .int .i64 (D.n : Int), .bool D.down] 31)).alloc (.cells #[.slice x.a x.z.L.length x.c, .int .i64 (x.z.safe : Int), .int .i64 x.z.state, .bool x.z.fin] 93)) 31 #[.slice none 0 0, .int .i64 0, .int .i64 0, .int .i64 0, .bool false]
  have hs3 : (((w.alloc (.cells #[.slice A D.zs.length c, .int .i64 D.size, .int .i64 D.op, .int .i64 (D.n : Int), .bool D.down] 31)).alloc (.cells #[.slice x.a x.z.L.length x.c, .int .i64 (x.z.safe : Int), .int .i64 x.z.state, .bool x.z.fin] 93)).alloc (.cells #[.slice none 0 0, .int .i64 0, .int .i64 0, .int .i64 0, .bool false] 31)).heap.size = w.heap.size + 1 + 1 + 1 := by simp
  rw [World.size_alloc] at k1
  rw [World.size_alloc, World.size_alloc] at k2
  obtain ⟨W3, hW⟩ : ∃ W3, W3 = ((w.alloc (.cells #[.slice A D.zs.length c, .int .i64 D.size, .int .i64 D.op, .int .i64 (D.n : Int), .bool D.down] 31)).alloc (.cells #[.slice x.a x.z.L.length x.c, .int .i64 (x.z.safe : Int), .int .i64 x.z.state, .bool x.z.fin] 93)).alloc (.cells #[.slice none 0 0, .int .i64 0, .int .i64 0, .int .i64 0, .bool false] 31) := ⟨_, rfl⟩
  rw [← hW] at hB k0 k1 k2 hs3 ⊢
  clear hW
  have x0 : W3.cell? ⟨w.heap.size, 0, none⟩ = some (.slice A D.zs.length c) := k0.cell 0
  have Hs3 := hide hs3
  have HB := hide hB
  have K0 := hide k0
  have K1 := hide k1
  have K2 := hide k2
  have H3 := hide (h'.out.below hB)
  clear hB k0 k1 k2 hs3
  have hrz := hide (rz_one es)
  go_upto_region 3 with (at_builtin; refine wpList_append_src _ rfl _ _ 29 rfl 0 93 i0 _ 4 48 Try.underlying29 hi hz0 hz1 hz2 rfl (by decide) (.slice none 0 0) 0 [] rfl (World.ownsRow_nil _ _ _ _) A D.zs.length c (es.flatMap RZ.cells) rfl H3.out.own hrz.out (by unfold maxLen; omega) (by omega) (Nat.zero_le _) ?_; intro v' w4 hown' hgrow hat; obtain ⟨g, c', rfl, -, hgl⟩ := hown'.form (by omega))
  simp only [Nat.zero_add, List.nil_append] at hown' hat
  have hlc' := (own_cap hown').1
  have hgw : g = w.heap.size + 1 + 1 + 1 := by
    have := Hs3.out
    rcases hat with h | h
    · simp [Value.ownBlock] at h
    · simp [Value.ownBlock] at h; omega
  have K04 := hide (K0.out.grown hgrow (by simp [Value.ownBlock]))
  have k14 := K1.out.grown hgrow (by simp [Value.ownBlock])
  have K24 := hide (K2.out.grown hgrow (by simp [Value.ownBlock]))
  have HB4 := hide (HB.out.grown hgrow (by have := Hs3.out; omega) (fun k hk => by simp [Value.ownBlock] at hk))
  have u0 : w4.cell? ⟨w.heap.size + 1, 0, none⟩ = some (.slice x.a x.z.L.length x.c) := k14.cell 0
  have u1 : w4.cell? ⟨w.heap.size + 1, 1, none⟩ = some (.int .i64 (x.z.safe : Int)) := k14.cell 1
  have u2 : w4.cell? ⟨w.heap.size + 1, 2, none⟩ = some (.int .i64 x.z.state) := k14.cell 2
  have u3 : w4.cell? ⟨w.heap.size + 1, 3, none⟩ = some (.bool x.z.fin) := k14.cell 3
  have hcell : ∀ j, j < 4 → ∃ v, w4.cell? ⟨g, k * 4 + j, none⟩ = some v := fun j hj => by
    have hj' : k * 4 + j < (es.flatMap RZ.cells).length := by rw [rz_length]; omega
    refine ⟨(es.flatMap RZ.cells)[k * 4 + j], ?_⟩
    have := hown'.cells (g := g) rfl (k * 4 + j) _ (List.getElem?_eq_getElem hj')
    simpa [Addr.add_lit] using this
  obtain ⟨v0, q0⟩ := hcell 0 (by omega)
  obtain ⟨v1, q1⟩ := hcell 1 (by omega)
  obtain ⟨v2, q2⟩ := hcell 2 (by omega)
  obtain ⟨v3, q3⟩ := hcell 3 (by omega)
  rw [Nat.add_zero] at q0
  have f0 := hown'.frozenAt (k * 4)
  have f1 := hown'.frozenAt (k * 4 + 1)
  have f2 := hown'.frozenAt (k * 4 + 2)
  have f3 := hown'.frozenAt (k * 4 + 3)
  have Hown := hide hown'
  have Hgrow := hide hgrow
  have Hgw := hide hgw
  clear hown' hgrow hat hgw k14 hcell x0 hrz
  go_upto_region 4 with (fail)
  change Code.wp _ _ _ _ (w4.setCells g (k * 4) x.cells)
  have Hown5 : Hid ((w4.setCells g (k * 4) x.cells).ownsRow 0 93 4 (.slice (some ⟨g, 0, none⟩) D.zs.length c') D.zs.length ((es.set k x).flatMap RZ.cells)) := hide (by
    rw [← setAll_rz es k hk' x]
    exact own_setCells _ _ _ _ Hown.out (by simp [RZ.cells]; omega))
  have K05 := Blk.setCells x.cells w4 g (k * 4) K04.out (by have := Hgw.out; omega)
  have K25 := Blk.setCells x.cells w4 g (k * 4) K24.out (by have := Hgw.out; omega)
  have HB5 : Hid (Below w.heap.size w (w4.setCells g (k * 4) x.cells)) := hide ((Mods.setCells x.cells w4 g (k * 4) (Mods.of_below HB4.out (fun _ => False)) (.inr (by have := Hgw.out; omega))).below (Nat.le_refl _) (fun _ h => h.elim))
  generalize w4.setCells g (k * 4) x.cells = w5 at Hown5 K05 K25 HB5 ⊢
  clear q0 q1 q2 q3 f0 f1 f2 f3 u0 u1 u2 u3
  obtain ⟨y0, y1, y2, y3, y4, fy0, -⟩ := K05.five
  obtain ⟨r0, r1, r2, r3, r4, g0, g1, g2, g3, g4⟩ := K25.five
  go_wp2_with fail
  have hf : Mods (fun j => j = w.heap.size ∨ j = w.heap.size + 1 + 1) w5 ((((((w5.setCell ⟨w.heap.size, 0, none⟩ (.slice (some ⟨g, 0, none⟩) D.zs.length c')).setCell ⟨w.heap.size + 1 + 1, 0, none⟩ (.slice (some ⟨g, 0, none⟩) D.zs.length c')).setCell ⟨w.heap.size + 1 + 1, 1, none⟩ (.int .i64 D.size)).setCell ⟨w.heap.size + 1 + 1, 2, none⟩ (.int .i64 D.op)).setCell ⟨w.heap.size + 1 + 1, 3, none⟩ (.int .i64 (D.n : Int))).setCell ⟨w.heap.size + 1 + 1, 4, none⟩ (.bool D.down)) :=
    ((((((Mods.refl _ w5).setCell (p := ⟨w.heap.size, 0, none⟩) (.inl (.inl rfl)) _).setCell (p := ⟨w.heap.size + 1 + 1, 0, none⟩) (.inl (.inr rfl)) _).setCell (p := ⟨w.heap.size + 1 + 1, 1, none⟩) (.inl (.inr rfl)) _).setCell (p := ⟨w.heap.size + 1 + 1, 2, none⟩) (.inl (.inr rfl)) _).setCell (p := ⟨w.heap.size + 1 + 1, 3, none⟩) (.inl (.inr rfl)) _).setCell (p := ⟨w.heap.size + 1 + 1, 4, none⟩) (.inl (.inr rfl)) _
  have Kf := Blk.set5 (K25.far (p := ⟨w.heap.size, 0, none⟩) (by simp; omega) (.slice (some ⟨g, 0, none⟩) D.zs.length c')) (.slice (some ⟨g, 0, none⟩) D.zs.length c') (.int .i64 D.size) (.int .i64 D.op) (.int .i64 (D.n : Int)) (.bool D.down)
  have hBf := HB5.out.trans ((hf.below (B := w.heap.size) HB5.out.size (fun j hj => by omega)).mono (Nat.le_refl _))
  refine bodyPost_ret (v := .agg #[.slice (some ⟨g, 0, none⟩) D.zs.length c', .int .i64 D.size, .int .i64 D.op, .int .i64 (D.n : Int), .bool D.down]) ?_ rfl ?_
  · exact results_cell_row (fn := Try.f87) (p := 6) rfl _ _ (w.heap.size + 1 + 1) 31 _ (0, 0) _ rfl Kf Try.underlying31 rfl sizeD
  · have hl : (D.put k x.z).zs.length = D.zs.length := by simp [Dv.put]
    have hgw := Hgw.out
    refine ⟨some ⟨g, 0, none⟩, c', es.set k x, by rw [hl]; rfl, ⟨?_, ?_, ?_, ?_, ?_⟩, hBf⟩
    · rw [List.map_set, h'.out.zs]; rfl
    · rw [hl]
      exact own_mods Hown5.out hf (fun j hj => by simp [Value.ownBlock] at hj; omega)
    · intro e he
      have hrow : w.ownsRow 0 33 64 (.slice e.a e.z.L.length e.c) e.z.L.length (e.z.L.flatMap Sec.cs) := by
        rcases List.mem_or_eq_of_mem_set he with h1 | rfl
        · exact h'.out.row e h1
        · exact hx'.out
      exact own_mods hrow (Mods.of_below hBf (fun _ => False)) (fun _ _ h => h)
    · intro j hj
      rw [hl] at hj
      simp [Value.ownBlock] at hj
      right; omega
    · intro e he j hj
      left
      rcases List.mem_or_eq_of_mem_set he with h1 | rfl
      · exact h'.out.inG.2 e h1 j hj
      · exact hxG'.out j hj
end
end R7
end Go.Proofs.Ytdinbhanekpjoaa
