/-
  The document's device: Spoil.
-/
import Derived.Test.YtdinbhanekpjoaaR07j
namespace Go.Proofs.Ytdinbhanekpjoaa.R7
open Go.RowKit
/-- The sector when q bytes are turned. -/
def mixS (s p : Sec) (q : Nat) : Sec :=
  ⟨(s.xor p).cs.take q ++ s.cs.drop q, by simp [(s.xor p).len, s.len]; omega, fun v hv => by
    rcases List.mem_append.1 hv with h | h
    · exact (s.xor p).byte v (List.mem_of_mem_take h)
    · exact s.byte v (List.mem_of_mem_drop h)⟩
theorem mixS_zero (s p : Sec) : mixS s p 0 = s := Sec.ext (by simp [mixS])
theorem mixS_all (s p : Sec) : mixS s p 64 = s.xor p := Sec.ext (by
  simp [mixS, List.take_of_length_le (Nat.le_of_eq (s.xor p).len), List.drop_of_length_le (Nat.le_of_eq s.len)])
theorem mixS_get (s p : Sec) (q : Nat) (hq : q < 64) : (mixS s p q).cs[q]? = s.cs[q]? := by
  have := ZD.xorTo_get s p q hq
  simpa [ZD.xorTo, mixS] using this
theorem mixS_succ (s p : Sec) (q : Nat) (hq : q < 64) (v : Value) (hv : (s.xor p).cs[q]? = some v) : (mixS s p q).cs.set q v = (mixS s p (q + 1)).cs := by
  have := ZD.xorTo_succ s p q hq v hv
  have h2 := congrArg Array.toList this
  simpa [ZD.xorTo, mixS] using h2
theorem flat_set (l : List Sec) (k q : Nat) (hk : k < l.length) (hq : q < 64) (v : Value) (x : Sec) (hx : l[k].cs.set q v = x.cs) : (l.flatMap Sec.cs).set (k * 64 + q) v = (l.set k x).flatMap Sec.cs := by
  apply List.ext_getElem?
  intro i
  have hl := flat_length l
  have hb : k * 64 + 64 ≤ l.length * 64 := by omega
  by_cases hi : i < l.length * 64
  · obtain ⟨m, r, hr, rfl⟩ : ∃ m r, r < 64 ∧ i = m * 64 + r := ⟨i / 64, i % 64, Nat.mod_lt _ (by omega), by omega⟩
    have hm : m < l.length := by omega
    rw [flat_get (l.set k x) m (by simpa using hm) r hr, List.getElem?_set]
    by_cases hkm : k = m
    · subst hkm
      simp only [List.getElem_set_self]
      rw [← hx, List.getElem?_set]
      by_cases hqr : q = r
      · subst hqr
        rw [if_pos rfl, if_pos (by rw [hl]; omega), if_pos rfl, if_pos (by rw [l[k].len]; exact hq)]
      · rw [if_neg (by omega), if_neg hqr, flat_get l k hm r hr]
    · rw [if_neg (by omega), List.getElem_set_ne hkm, flat_get l m hm r hr]
  · rw [List.getElem?_eq_none (by rw [List.length_set, hl]; omega), List.getElem?_eq_none (by rw [flat_length, List.length_set]; omega)]

/-- The device's five cells are stored into the result's block r, which no part of the device has. -/
theorem storedX {w w4 : World} {D' : Dv} {A' : Option Addr} {c' : Nat} {es' : List RZ} {G Gx : Nat → Prop} {r : Nat} {v0 v1 v2 v3 v4 : Value} (hB : Below w.heap.size w w4) (href : RefIs w4 D' A' c' es' Gx) (hr1 : w.heap.size ≤ r) (hGx : ∀ k, Gx k → (G k ∨ w.heap.size ≤ k) ∧ k ≠ r) :
    RefIs (((((w4.setCell ⟨r, 0, none⟩ v0).setCell ⟨r, 1, none⟩ v1).setCell ⟨r, 2, none⟩ v2).setCell ⟨r, 3, none⟩ v3).setCell ⟨r, 4, none⟩ v4) D' A' c' es' (fun k => G k ∨ w.heap.size ≤ k) ∧
    Below w.heap.size w (((((w4.setCell ⟨r, 0, none⟩ v0).setCell ⟨r, 1, none⟩ v1).setCell ⟨r, 2, none⟩ v2).setCell ⟨r, 3, none⟩ v3).setCell ⟨r, 4, none⟩ v4) := by
  have hm := Mods.set5 (fun k => k = r) w4 r v0 v1 v2 v3 v4 rfl
  have hs := hB.size
  exact ⟨(href.mods hm (fun k hk _ e => (hGx k hk).2 e)).mono (fun k hk => (hGx k hk).1), hB.trans (hm.below (by omega) (fun k e => by omega))⟩

section
variable {w : World} {D : Dv} {A : Option Addr} {c : Nat} {es : List RZ} {G : Nat → Prop}
set_option maxRecDepth 100000 in
set_option maxHeartbeats 1000000 in
theorem spoil_out (h : RefIs w D A c es G) (i off : Int) (p : Sec) (hz : i < 0 ∨ (D.zs.length : Int) ≤ i) : Calls Try.prog 56 #[.agg #[.slice A D.zs.length c, .int .i64 D.size, .int .i64 D.op, .int .i64 (D.n : Int), .bool D.down], .int .i64 i, .int .i64 off, p.agg] w (Gave w G (D.spoil i off p).1 (D.spoil i off p).2) := by
  have hB : ∀ o1 o2 o3, Below w.heap.size w (((w.alloc o1).alloc o2).alloc o3) := fun _ _ _ => (((Below.refl _ w).alloc (Nat.le_refl _) _).alloc (by simp) _).alloc (by simp; omega) _
  have hfin := hide (Dv.spoil_out off p hz)
  have h' := hide h
  clear h
  unfold Sec.agg
  by_cases h0 : i < 0
  · clear hz
    go_enter Try.func56, Try.ntmps56
    go_wp2_with fail
    refine bodyPost_ret (v := .tuple #[.agg #[.slice A D.zs.length c, .int .i64 D.size, .int .i64 D.op, .int .i64 (D.n : Int), .bool D.down], .int .i64 13]) (by simp [results, Try.results56, go_sem]) rfl ?_
    rw [hfin.out]
    exact ⟨A, c, es, rfl, (h'.out.below (hB _ _ _)).mono (fun _ hk => .inl hk), hB _ _ _⟩
  · have h1 : (D.zs.length : Int) ≤ i := by omega
    clear hz
    go_enter Try.func56, Try.ntmps56
    go_wp2_with fail
    refine bodyPost_ret (v := .tuple #[.agg #[.slice A D.zs.length c, .int .i64 D.size, .int .i64 D.op, .int .i64 (D.n : Int), .bool D.down], .int .i64 13]) (by simp [results, Try.results56, go_sem]) rfl ?_
    rw [hfin.out]
    exact ⟨A, c, es, rfl, (h'.out.below (hB _ _ _)).mono (fun _ hk => .inl hk), hB _ _ _⟩

set_option maxRecDepth 100000 in
set_option maxHeartbeats 1000000 in
theorem spoil_off (h : RefIs w D A c es G) (k : Nat) (off : Int) (p : Sec) (hk : k < D.zs.length) (ho : off < 0 ∨ (D.zs[k].L.length : Int) ≤ off) : Calls Try.prog 56 #[.agg #[.slice A D.zs.length c, .int .i64 D.size, .int .i64 D.op, .int .i64 (D.n : Int), .bool D.down], .int .i64 (k : Int), .int .i64 off, p.agg] w (Gave w G (D.spoil (k : Int) off p).1 (D.spoil (k : Int) off p).2) := by
  have hB : ∀ o1 o2 o3 o4, Below w.heap.size w ((((w.alloc o1).alloc o2).alloc o3).alloc o4) := fun _ _ _ _ => ((((Below.refl _ w).alloc (Nat.le_refl _) _).alloc (by simp) _).alloc (by simp; omega) _).alloc (by simp; omega) _
  have hfin := hide (Dv.spoil_in off p hk)
  have hcz := hide (Zn.change_out (z := D.zs[k]) (Sec.xor · p) off ho)
  have Hps := hide (put_same (D := D) k hk)
  obtain ⟨g, rfl, hlc, hgl, hk', hez, x0, x1, x2, x3⟩ := h.at_ hk
  have Hez := hide hez
  have hgl1 : g < w.heap.size + 1 := by omega
  have hgl2 : g < w.heap.size + 1 + 1 := by omega
  have dk : decide (D.zs.length ≤ k) = false := decide_eq_false (by omega)
  have h' := hide h
  clear h hez
  unfold Sec.agg
  by_cases h0 : off < 0
  · clear ho
    go_enter Try.func56, Try.ntmps56
    go_wp2_with fail
    refine bodyPost_ret (v := .tuple #[.agg #[.slice (some ⟨g, 0, none⟩) D.zs.length c, .int .i64 D.size, .int .i64 D.op, .int .i64 (D.n : Int), .bool D.down], .int .i64 31]) (by simp [results, Try.results56, go_sem]) rfl ?_
    rw [hfin.out, hcz.out]
    dsimp only
    rw [Hps.out]
    exact ⟨some ⟨g, 0, none⟩, c, es, rfl, (h'.out.below (hB _ _ _ _)).mono (fun _ hk => .inl hk), hB _ _ _ _⟩
  · have h1 : (D.zs[k].L.length : Int) ≤ off := by omega
    clear ho
    go_enter Try.func56, Try.ntmps56
    go_wp2_with fail
    refine bodyPost_ret (v := .tuple #[.agg #[.slice (some ⟨g, 0, none⟩) D.zs.length c, .int .i64 D.size, .int .i64 D.op, .int .i64 (D.n : Int), .bool D.down], .int .i64 31]) (by simp [results, Try.results56, go_sem]) rfl ?_
    rw [hfin.out, hcz.out]
    dsimp only
    rw [Hps.out]
    exact ⟨some ⟨g, 0, none⟩, c, es, rfl, (h'.out.below (hB _ _ _ _)).mono (fun _ hk => .inl hk), hB _ _ _ _⟩

set_option maxRecDepth 100000 in
set_option maxHeartbeats 1000000 in
theorem spoil_at (h : RefIs w D A c es G) (hl : D.zs.length < 65536) (hL : ∀ x ∈ D.zs, x.L.length < 65536) (k j : Nat) (p : Sec) (hk : k < D.zs.length) (hj : j < D.zs[k].L.length) : Calls Try.prog 56 #[.agg #[.slice A D.zs.length c, .int .i64 D.size, .int .i64 D.op, .int .i64 (D.n : Int), .bool D.down], .int .i64 (k : Int), .int .i64 (j : Int), p.agg] w (Gave w G (D.spoil (k : Int) (j : Int) p).1 (D.spoil (k : Int) (j : Int) p).2) := by
  have hfin := hide (Dv.spoil_in (j : Int) p hk)
  have hcz := hide (Zn.change_in (z := D.zs[k]) (Sec.xor · p) j hj)
  obtain ⟨i0, hi, hz0, hz1, hz2⟩ := info_parts infoA
  obtain ⟨g, rfl, hlc, hgl, hk', hez, x0, x1, x2, x3⟩ := h.at_ hk
  have Hez := hide hez
  have hrow : w.ownsRow 0 33 64 (.slice es[k].a D.zs[k].L.length es[k].c) D.zs[k].L.length (D.zs[k].L.flatMap Sec.cs) := by rw [← hez]; exact h.row _ (List.getElem_mem hk')
  obtain ⟨gr, ha, hjc, hgr, -⟩ := own_range hrow rfl j hj
  rw [ha] at x0 hrow
  have hgl1 : g < w.heap.size + 1 := by omega
  have hgl2 : g < w.heap.size + 1 + 1 := by omega
  have dk : decide (D.zs.length ≤ k) = false := decide_eq_false (by omega)
  have dj : decide (D.zs[k].L.length ≤ j) = false := decide_eq_false (by omega)
  have hLk := hL _ (List.getElem_mem hk)
  have h' := hide h.tight
  have Hl := hide hl
  have Hrow := hide hrow
  have hone := hide (flat_one D.zs[k].L)
  clear h hez ha hrow hL hl
  unfold Sec.agg
  go_enter Try.func56, Try.ntmps56
  go_upto_region 6 with (fail)
  have hB : Below w.heap.size w ((((w.alloc (.cells #[.slice (some ⟨g, 0, none⟩) D.zs.length c, .int .i64 D.size, .int .i64 D.op, .int .i64 (D.n : Int), .bool D.down] 31)).alloc (.cells p.cs.toArray 33)).alloc (.cells #[.slice none 0 0, .int .i64 0, .int .i64 0, .int .i64 0, .bool false] 31)).alloc (.cells #[.slice (some ⟨gr, 0, none⟩) D.zs[k].L.length es[k].c, .int .i64 (D.zs[k].safe : Int), .int .i64 D.zs[k].state, .bool D.zs[k].fin] 93)) := ((((Below.refl _ w).alloc (Nat.le_refl _) _).alloc (by simp) _).alloc (by simp; omega) _).alloc (by simp; omega) _
  have k0 := (((Blk.new w 31 #[.slice (some ⟨g, 0, none⟩) D.zs.length c, .int .i64 D.size, .int .i64 D.op, .int .i64 (D.n : Int), .bool D.down]).alloc (.cells p.cs.toArray 33)).alloc (.cells #[.slice none 0 0, .int .i64 0, .int .i64 0, .int .i64 0, .bool false] 31)).alloc (.cells #[.slice (some ⟨gr, 0, none⟩) D.zs[k].L.length es[k].c, .int .i64 (D.zs[k].safe : Int), .int .i64 D.zs[k].state, .bool D.zs[k].fin] 93)
  have kp := ((Blk.new (w.alloc (.cells #[.slice (some ⟨g, 0, none⟩) D.zs.length c, .int .i64 D.size, .int .i64 D.op, .int .i64 (D.n : Int), .bool D.down] 31)) 33 p.cs.toArray).alloc (.cells #[.slice none 0 0, .int .i64 0, .int .i64 0, .int .i64 0, .bool false] 31)).alloc (.cells #[.slice (some ⟨gr, 0, none⟩) D.zs[k].L.length es[k].c, .int .i64 (D.zs[k].safe : Int), .int .i64 D.zs[k].state, .bool D.zs[k].fin] 93)
  have kr := (Blk.new ((w.alloc (.cells #[.slice (some ⟨g, 0, none⟩) D.zs.length c, .int .i64 D.size, .int .i64 D.op, .int .i64 (D.n : Int), .bool D.down] 31)).alloc (.cells p.cs.toArray 33)) 31 #[.slice none 0 0, .int .i64 0, .int .i64 0, .int .i64 0, .bool false]).alloc (.cells #[.slice (some ⟨gr, 0, none⟩) D.zs[k].L.length es[k].c, .int .i64 (D.zs[k].safe : Int), .int .i64 D.zs[k].state, .bool D.zs[k].fin] 93)
  have kz := Blk.new (((w.alloc (.cells #[.slice (some ⟨g, 0, none⟩) D.zs.length c, .int .i64 D.size, .int .i64 D.op, .int .i64 (D.n : Int), .bool D.down] 31)).alloc (.cells p.cs.toArray 33)).alloc (.cells #[.slice none 0 0, .int .i64 0, .int .i64 0, .int .i64 0, .bool false] 31)) 93 #[.slice (some ⟨gr, 0, none⟩) D.zs[k].L.length es[k].c, .int .i64 (D.zs[k].safe : Int), .int .i64 D.zs[k].state, .bool D.zs[k].fin]
  have hs4 : (((((w.alloc (.cells #[.slice (some ⟨g, 0, none⟩) D.zs.length c, .int .i64 D.size, .int .i64 D.op, .int .i64 (D.n : Int), .bool D.down] 31)).alloc (.cells p.cs.toArray 33)).alloc (.cells #[.slice none 0 0, .int .i64 0, .int .i64 0, .int .i64 0, .bool false] 31)).alloc (.cells #[.slice (some ⟨gr, 0, none⟩) D.zs[k].L.length es[k].c, .int .i64 (D.zs[k].safe : Int), .int .i64 D.zs[k].state, .bool D.zs[k].fin] 93))).heap.size = w.heap.size + 1 + 1 + 1 + 1 := by simp
  rw [World.size_alloc] at kp
  rw [World.size_alloc, World.size_alloc] at kr
  rw [World.size_alloc, World.size_alloc, World.size_alloc] at kz
  generalize ((((w.alloc (.cells #[.slice (some ⟨g, 0, none⟩) D.zs.length c, .int .i64 D.size, .int .i64 D.op, .int .i64 (D.n : Int), .bool D.down] 31)).alloc (.cells p.cs.toArray 33)).alloc (.cells #[.slice none 0 0, .int .i64 0, .int .i64 0, .int .i64 0, .bool false] 31)).alloc (.cells #[.slice (some ⟨gr, 0, none⟩) D.zs[k].L.length es[k].c, .int .i64 (D.zs[k].safe : Int), .int .i64 D.zs[k].state, .bool D.zs[k].fin] 93)) = W4 at hB k0 kp kr kz hs4 ⊢
  have Hs4 := hide hs4
  have HB := hide hB
  have K0 := hide k0
  have Kp := hide kp
  have Kr := hide kr
  have Kz := hide kz
  have H4 := hide (h'.out.below hB)
  have Hrow4 := hide (Hrow.out.mods' hB)
  have b4 : W4.cell? ⟨w.heap.size + 1 + 1 + 1, 0, none⟩ = some (.slice (some ⟨gr, 0, none⟩) D.zs[k].L.length es[k].c) := kz.cell 0
  clear hB k0 kp kr kz hs4 x0 x1 x2 x3
  go_upto_region 8 with (at_builtin; refine wpList_append_src _ rfl _ _ 91 rfl 0 33 i0 _ 64 64 Try.underlying91 hi hz0 hz1 hz2 rfl (by decide) (.slice none 0 0) 0 [] rfl (World.ownsRow_nil _ _ _ _) (some ⟨gr, 0, none⟩) D.zs[k].L.length es[k].c (D.zs[k].L.flatMap Sec.cs) rfl Hrow4.out hone.out (by unfold maxLen; omega) (by omega) (Nat.zero_le _) ?_; intro v' w5 hown' hgrow hat; obtain ⟨g2, c2, rfl, -, hgl3⟩ := hown'.form (by omega))
  simp only [Nat.zero_add, List.nil_append] at hown' hat
  have hgw : g2 = w.heap.size + 1 + 1 + 1 + 1 := by
    have := Hs4.out
    rcases hat with h | h
    · simp [Value.ownBlock] at h
    · simp [Value.ownBlock] at h; omega
  have K05 := hide (K0.out.grown hgrow (by simp [Value.ownBlock]))
  have Kp5 := hide (Kp.out.grown hgrow (by simp [Value.ownBlock]))
  have Kr5 := hide (Kr.out.grown hgrow (by simp [Value.ownBlock]))
  have Kz5 := hide (Kz.out.grown hgrow (by simp [Value.ownBlock]))
  have HB5 := hide (HB.out.grown hgrow (by have := Hs4.out; omega) (fun k hk => by simp [Value.ownBlock] at hk))
  have Hown5 := hide hown'
  have Hgw := hide hgw
  have hc2 : Hid (D.zs[k].L.length ≤ c2) := hide (own_cap hown').1
  clear hown' hgrow hat hgw b4 K0 Kp Kr Kz H4 Hrow4 hgl3
  go_wp2_with fail
  have H0 : Hid (w5.ownsRow 0 33 64 (.slice (some ⟨g2, 0, none⟩) D.zs[k].L.length c2) D.zs[k].L.length ((D.zs[k].L.set j (mixS D.zs[k].L[j] p 0)).flatMap Sec.cs)) := hide (by rw [mixS_zero, List.set_getElem_self]; exact Hown5.out)
  go_loopw [12] (fun i wr => ∃ q : Nat, q ≤ 64 ∧ i = .int .i64 q ∧ wr.ownsRow 0 33 64 (.slice (some ⟨g2, 0, none⟩) D.zs[k].L.length c2) D.zs[k].L.length ((D.zs[k].L.set j (mixS D.zs[k].L[j] p q)).flatMap Sec.cs) ∧ Mods (fun b => b = g2) w5 wr) (fun i _ => 64 - (intOf i).toNat)
  case atStart => exact ⟨0, by omega, rfl, H0.out, Mods.refl _ _⟩
  case round =>
    obtain ⟨q, hq, rfl, hown, hmod⟩ := hrel
    by_cases hlt : q < 64
    · obtain ⟨a, ha⟩ := ZD.byte_at D.zs[k].L[j] q hlt
      obtain ⟨b, hb⟩ := ZD.byte_at p q hlt
      have hjl : j < (D.zs[k].L.set j (mixS D.zs[k].L[j] p q)).length := by simpa using hj
      have x0 : wr.cell? ⟨g2, j * 64 + q, none⟩ = some (.int .u8 a) := by
        have := hown.cells (g := g2) rfl (j * 64 + q) (.int .u8 a) (by rw [flat_get _ j hjl q hlt, List.getElem_set_self, mixS_get _ _ _ hlt, ha])
        simpa [Addr.add_lit] using this
      have f0 : wr.frozen? ⟨g2, j * 64 + q, none⟩ = false := hown.frozenAt (j * 64 + q)
      have kp := Kp5.out.mods hmod (by have := Hgw.out; omega)
      have x1 : wr.cell? ⟨w.heap.size + 1, q, none⟩ = some (.int .u8 b) := by rw [kp.cell, List.getElem?_toArray, hb]
      have Hst := hide (hown.stored (j * 64 + q) (.int .u8 (bits .xor .u8 a b))).1
      have Hx := hide (flat_set (D.zs[k].L.set j (mixS D.zs[k].L[j] p q)) j q hjl hlt (.int .u8 (bits .xor .u8 a b)) (mixS D.zs[k].L[j] p (q + 1)) (by rw [List.getElem_set_self]; exact mixS_succ _ _ _ hlt _ (ZD.xor_get _ _ _ a b ha hb)))
      have Hmod := hide hmod
      clear ha hb hown hmod kp
      go_upto_region 11 with (fail)
      refine wp_region_still_tail 15 (by decide +kernel) (by decide +kernel) ?_
      simp only [List.take_succ_cons, List.take_zero, List.drop_succ_cons, List.drop_zero]
      repeat still_step
      refine wpStill_nil ?_
      change wpList _ _ _ _ _ wr.drew
      have y0 : wr.drew.cell? ⟨g2, j * 64 + q, none⟩ = some (.int .u8 a) := x0
      have h0 : wr.drew.frozen? ⟨g2, j * 64 + q, none⟩ = false := f0
      go_wp2_with fail
      go_roundw
      case rel =>
        refine ⟨q + 1, by omega, by go_num, ?_, ?_⟩
        · have e := Hx.out
          rw [List.set_set] at e
          rw [← e]
          exact Hst.out
        · exact (Hmod.out.setCell (p := ⟨g2, j * 64 + q, none⟩) (.inl rfl) _).drew
      case measure => simp [intOf]; omega
    · obtain rfl : q = 64 := by omega
      rw [mixS_all] at hown
      have hgw := Hgw.out
      have kz := Kz5.out.mods hmod (by omega)
      have k0 := K05.out.mods hmod (by omega)
      have kr := Kr5.out.mods hmod (by omega)
      have hB := HB5.out.trans (hmod.below (B := w.heap.size) HB5.out.size (fun b e => by omega))
      have hm3 : Mods (fun b => b = w.heap.size + 1 + 1 + 1) wr (wr.setCell ⟨w.heap.size + 1 + 1 + 1, 0, none⟩ (.slice (some ⟨g2, 0, none⟩) D.zs[k].L.length c2)) := (Mods.refl (fun b => b = w.heap.size + 1 + 1 + 1) wr).setCell (p := ⟨w.heap.size + 1 + 1 + 1, 0, none⟩) (.inl rfl) _
      have k0' := hide (k0.mods hm3 (by omega))
      have kr' := hide (kr.mods hm3 (by omega))
      have kz' := hide (kz.set_ 0 (.slice (some ⟨g2, 0, none⟩) D.zs[k].L.length c2))
      have hB' := hide (hB.trans (hm3.below (B := w.heap.size) hB.size (fun b e => by omega)))
      have hown' := hide (own_mods hown hm3 (fun b hb => by simp [Value.ownBlock] at hb; omega))
      obtain ⟨x0, x1, x2, x3, f0, f1, f2, f3⟩ := kz.four
      obtain ⟨s0, s1, s2, s3, s4, -⟩ := k0.five
      have Hs0 := hide s0
      clear hgw kz k0 kr hB hm3 hown hmod
      go_upto_region 13 with (fail)
      generalize wr.setCell _ _ = X at k0' kr' kz' hB' hown' ⊢
      clear x0 x1 x2 x3 f0 f1 f2 f3 s0 s1 s2 s3 s4
      have kz2 : Blk X (w.heap.size + 1 + 1 + 1) 93 #[.slice (some ⟨g2, 0, none⟩) D.zs[k].L.length c2, .int .i64 (D.zs[k].safe : Int), .int .i64 D.zs[k].state, .bool D.zs[k].fin] := by simpa using kz'.out
      obtain ⟨x0, x1, x2, x3, -⟩ := kz2.four
      obtain ⟨s0, s1, s2, s3, s4, -⟩ := k0'.out.five
      have hll : (D.zs[k].L.set j (D.zs[k].L[j].xor p)).length = D.zs[k].L.length := List.length_set
      have href := (h'.out.below hB'.out).mono (G' := fun i => (G i ∧ i < w.heap.size) ∨ (w.heap.size ≤ i ∧ i ≠ w.heap.size + 1 + 1)) (fun i hi => .inl hi)
      have hput := put_any href Hl.out k hk ⟨{ D.zs[k] with L := D.zs[k].L.set j (D.zs[k].L[j].xor p) }, some ⟨g2, 0, none⟩, c2⟩ (by dsimp only; rw [hll]; exact hown'.out) (by intro i hi; simp [Value.ownBlock] at hi; have := Hgw.out; right; omega)
      dsimp only at hput
      rw [hll] at hput
      have Hput := hide hput
      clear hput href hll kz2
      go_wp2_with fail
      refine Hput.out.mono ?_
      rintro e w6 ⟨A', c', es', rfl, href, hb6⟩
      have kr6 : Blk w6 (w.heap.size + 1 + 1) 31 _ := (hb6.block _ kr'.out.lt).trans kr'.out
      obtain ⟨r0, r1, r2, r3, r4, g0, g1, g2, g3, g4⟩ := kr6.five
      have Kf := hide (Blk.set5 kr6 (.slice A' (D.put k { D.zs[k] with L := D.zs[k].L.set j (D.zs[k].L[j].xor p) }).zs.length c') (.int .i64 D.size) (.int .i64 D.op) (.int .i64 (D.n : Int)) (.bool D.down))
      have HBf := hide (hB'.out.trans (hb6.mono hB'.out.size))
      have Hrl := hide kr'.out.lt
      have Href := hide href
      clear href hb6 kr6 Hput x0 x1 x2 x3 s0 s1 s2 s3 s4
      go_wp2_with fail
      refine bodyPost_ret (v := .tuple #[.agg #[.slice A' (D.put k { D.zs[k] with L := D.zs[k].L.set j (D.zs[k].L[j].xor p) }).zs.length c', .int .i64 D.size, .int .i64 D.op, .int .i64 (D.n : Int), .bool D.down], .int .i64 0]) ?_ rfl ?_
      · exact results_dev2 (fn := Try.f56) (p := 8) (u := 9) (g := w.heap.size + 1 + 1) rfl _ _ _ _ _ _ _ rfl rfl Kf.out
      · rw [hfin.out, hcz.out]
        obtain ⟨q1, q2⟩ := storedX (G := G) (v0 := .slice A' (D.put k { D.zs[k] with L := D.zs[k].L.set j (D.zs[k].L[j].xor p) }).zs.length c') (v1 := .int .i64 D.size) (v2 := .int .i64 D.op) (v3 := .int .i64 (D.n : Int)) (v4 := .bool D.down) HBf.out Href.out (r := w.heap.size + 1 + 1) (by omega) (fun i hi => by
          have := hB'.out.size
          have := Hrl.out
          rcases hi with (hi | hi) | hi
          · exact ⟨.inl hi.1, by omega⟩
          · exact ⟨.inr hi.1, hi.2⟩
          · exact ⟨.inr (by omega), by omega⟩)
        exact ⟨A', c', es', rfl, q1, q2⟩

theorem spoil_any (h : RefIs w D A c es G) (hl : D.zs.length < 65536) (hL : ∀ x ∈ D.zs, x.L.length < 65536) (i off : Int) (p : Sec) : Calls Try.prog 56 #[.agg #[.slice A D.zs.length c, .int .i64 D.size, .int .i64 D.op, .int .i64 (D.n : Int), .bool D.down], .int .i64 i, .int .i64 off, p.agg] w (Gave w G (D.spoil i off p).1 (D.spoil i off p).2) := by
  by_cases hz : i < 0 ∨ (D.zs.length : Int) ≤ i
  · exact spoil_out h i off p hz
  · obtain ⟨k, rfl⟩ := Int.eq_ofNat_of_zero_le (show 0 ≤ i by omega)
    have hk : k < D.zs.length := by omega
    by_cases ho : off < 0 ∨ (D.zs[k].L.length : Int) ≤ off
    · exact spoil_off h k off p hk ho
    · obtain ⟨j, rfl⟩ := Int.eq_ofNat_of_zero_le (show 0 ≤ off by omega)
      exact spoil_at h hl hL k j p hk (by omega)
end
end Go.Proofs.Ytdinbhanekpjoaa.R7
