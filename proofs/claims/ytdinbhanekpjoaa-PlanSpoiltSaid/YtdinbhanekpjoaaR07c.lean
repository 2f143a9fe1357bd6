/-
  The document's device: Fail.
-/
import Derived.Test.YtdinbhanekpjoaaR07b
import Derived.Test.YtdinbhanekpjoaaDM3
namespace Go.Proofs.Ytdinbhanekpjoaa
open Go.RowKit
theorem RefIs.tight {w : World} {D : Dv} {A : Option Addr} {c : Nat} {es : List RZ} {G : Nat → Prop} (h : RefIs w D A c es G) : RefIs w D A c es (fun k => G k ∧ k < w.heap.size) :=
  ⟨h.zs, h.own, h.row, fun g hg => ⟨h.inG.1 g hg, own_lt h.own g hg⟩, fun e he g hg => ⟨h.inG.2 e he g hg, own_lt (h.row e he) g hg⟩⟩
namespace R7
/-- What a method hands back that answers a device and a number. -/
def Gave (w : World) (G : Nat → Prop) (D' : Dv) (p : Int) (e : Ending) (w' : World) : Prop :=
  ∃ A c es, e = .returned (.tuple #[.agg #[.slice A D'.zs.length c, .int .i64 D'.size, .int .i64 D'.op, .int .i64 (D'.n : Int), .bool D'.down], .int .i64 p]) ∧ RefIs w' D' A c es (fun k => G k ∨ w.heap.size ≤ k) ∧ Below w.heap.size w w'

theorem results_agg2 {P : Program} {fn : Func} {p u : Tmp} {ty t : TypeId} {d : TypeDesc} {cs : Array Value} {w : World} {g : Nat} (h : fn.results = #[.cell p ty, .tmp u]) (hu : P.underlying ty = some d) (hd : (match d with | .struct _ | .array _ _ => true | _ => false) = true) (hi : (P.info? ty).map (·.size) = some cs.size)
    (tmps : Array Value) (v : Value) (hp : tmps.getD p undef = .pointer (some ⟨g, 0, none⟩)) (hv : tmps.getD u undef = v) (hg : Blk w g t cs) : (results fn tmps).run P w = .ok (.tuple #[.agg cs, v]) w := by
  subst hv
  rw [results_cell_tmp h, hp]
  simp only [asAddr, Sem.run_pure, Result.andThen_ok, run_loadVar_row (P := P) w g t ty cs (0, 0) d hg hu hd hi]

theorem results_dev2 {fn : Func} {p u : Tmp} {w : World} {g : Nat} (h : fn.results = #[.cell p 31, .tmp u]) (tmps : Array Value) (v v0 v1 v2 v3 v4 : Value) (hp : tmps.getD p undef = .pointer (some ⟨g, 0, none⟩)) (hv : tmps.getD u undef = v) (hg : Blk w g 31 #[v0, v1, v2, v3, v4]) :
    (results fn tmps).run Try.prog w = .ok (.tuple #[.agg #[v0, v1, v2, v3, v4], v]) w := results_agg2 (cs := #[v0, v1, v2, v3, v4]) h Try.underlying31 rfl sizeD tmps v hp hv hg

/-- The device's five cells are stored into the result's block r. -/
theorem stored5 {w W3 w4 : World} {D' : Dv} {A' : Option Addr} {c' : Nat} {es' : List RZ} {G : Nat → Prop} {r : Nat} {v0 v1 v2 v3 v4 : Value} (hB : Below w.heap.size w W3) (href : RefIs w4 D' A' c' es' (fun k => (G k ∧ k < w.heap.size) ∨ W3.heap.size ≤ k)) (hb : Below W3.heap.size W3 w4)
    (hr1 : w.heap.size ≤ r) (hr2 : r < W3.heap.size) :
    RefIs (((((w4.setCell ⟨r, 0, none⟩ v0).setCell ⟨r, 1, none⟩ v1).setCell ⟨r, 2, none⟩ v2).setCell ⟨r, 3, none⟩ v3).setCell ⟨r, 4, none⟩ v4) D' A' c' es' (fun k => G k ∨ w.heap.size ≤ k) ∧
    Below w.heap.size w (((((w4.setCell ⟨r, 0, none⟩ v0).setCell ⟨r, 1, none⟩ v1).setCell ⟨r, 2, none⟩ v2).setCell ⟨r, 3, none⟩ v3).setCell ⟨r, 4, none⟩ v4) := by
  have hm := Mods.set5 (fun k => k = r) w4 r v0 v1 v2 v3 v4 rfl
  have hs := hB.size
  have hs4 := hb.size
  refine ⟨(href.mods hm (fun k hk _ e => ?_)).mono (fun k hk => ?_), (hB.trans (hb.mono hs)).trans (hm.below (by omega) (fun k e => by omega))⟩
  · subst e
    rcases hk with hk | hk
    · omega
    · omega
  · rcases hk with hk | hk
    · exact .inl hk.1
    · right; omega

theorem _root_.Go.World.ownsRow.mods' {w w' : World} {base : Nat} {e : TypeId} {size n : Nat} {v : Value} {xs : List Value} (h : w.ownsRow base e size v n xs) (hb : Below w.heap.size w w') : w'.ownsRow base e size v n xs := own_mods h (Mods.of_below hb (fun _ => False)) (fun _ _ h => h)

section
variable {w : World} {D : Dv} {A : Option Addr} {c : Nat} {es : List RZ} {G : Nat → Prop}
set_option maxRecDepth 100000 in
set_option maxHeartbeats 1000000 in
theorem fail_out (h : RefIs w D A c es G) (i s : Int) (hz : i < 0 ∨ (D.zs.length : Int) ≤ i) : Calls Try.prog 54 #[.agg #[.slice A D.zs.length c, .int .i64 D.size, .int .i64 D.op, .int .i64 (D.n : Int), .bool D.down], .int .i64 i, .int .i64 s] w (Gave w G (D.fail i s).1 (D.fail i s).2) := by
  have hB : ∀ o1 o2, Below w.heap.size w ((w.alloc o1).alloc o2) := fun _ _ => ((Below.refl _ w).alloc (Nat.le_refl _) _).alloc (by simp) _
  have hfin := hide (Dv.fail_out s hz)
  have h' := hide h
  clear h
  by_cases h0 : i < 0
  · clear hz
    go_enter Try.func54, Try.ntmps54
    go_wp2_with fail
    refine bodyPost_ret (v := .tuple #[.agg #[.slice A D.zs.length c, .int .i64 D.size, .int .i64 D.op, .int .i64 (D.n : Int), .bool D.down], .int .i64 13]) (by simp [results, Try.results54, go_sem]) rfl ?_
    rw [hfin.out]
    exact ⟨A, c, es, rfl, (h'.out.below (hB _ _)).mono (fun _ hk => .inl hk), hB _ _⟩
  · have h1 : (D.zs.length : Int) ≤ i := by omega
    clear hz
    go_enter Try.func54, Try.ntmps54
    go_wp2_with fail
    refine bodyPost_ret (v := .tuple #[.agg #[.slice A D.zs.length c, .int .i64 D.size, .int .i64 D.op, .int .i64 (D.n : Int), .bool D.down], .int .i64 13]) (by simp [results, Try.results54, go_sem]) rfl ?_
    rw [hfin.out]
    exact ⟨A, c, es, rfl, (h'.out.below (hB _ _)).mono (fun _ hk => .inl hk), hB _ _⟩

set_option maxRecDepth 100000 in
set_option maxHeartbeats 1000000 in
theorem fail_any (h : RefIs w D A c es G) (hl : D.zs.length < 65536) (i s : Int) : Calls Try.prog 54 #[.agg #[.slice A D.zs.length c, .int .i64 D.size, .int .i64 D.op, .int .i64 (D.n : Int), .bool D.down], .int .i64 i, .int .i64 s] w (Gave w G (D.fail i s).1 (D.fail i s).2) := by
  by_cases hz : i < 0 ∨ (D.zs.length : Int) ≤ i
  · exact fail_out h i s hz
  · obtain ⟨k, rfl⟩ := Int.eq_ofNat_of_zero_le (show 0 ≤ i by omega)
    have hk : k < D.zs.length := by omega
    have hfin := hide (Dv.fail_in s hk)
    obtain ⟨g, rfl, hlc, hgl, hk', hez, x0, x1, x2, x3⟩ := h.at_ hk
    have dk : decide (D.zs.length ≤ k) = false := decide_eq_false (by omega)
    have Hl := hide hl
    have Hez := hide hez
    have h' := hide h.tight
    have hrow := hide (h.row _ (List.getElem_mem hk'))
    have hrin := hide (h.inG.2 _ (List.getElem_mem hk'))
    clear h hz hez hl
    have hrow' : Hid (w.ownsRow 0 33 64 (.slice es[k].a D.zs[k].L.length es[k].c) D.zs[k].L.length (D.zs[k].L.flatMap Sec.cs)) := by rw [← Hez.out]; exact hrow
    have hrin' : Hid (∀ j, (Value.slice es[k].a D.zs[k].L.length es[k].c).ownBlock = some j → G j ∧ j < w.heap.size) := hide (fun j hj => by
      refine ⟨?_, own_lt hrow'.out j hj⟩
      rw [← Hez.out] at hj
      exact hrin.out j hj)
    clear hrow hrin
    by_cases h4 : s = 4
    · have e4 : (s == 4) = true := beq_iff_eq.2 h4
      have hzf := hide (Zn.fail_yes (z := D.zs[k]) s (.inl h4))
      clear h4
      go_enter Try.func54, Try.ntmps54
      go_wp2_with fail
      have hB : Below w.heap.size w (((w.alloc (.cells #[.slice (some ⟨g, 0, none⟩) D.zs.length c, .int .i64 D.size, .int .i64 D.op, .int .i64 (D.n : Int), .bool D.down] 31)).alloc (.cells #[.slice none 0 0, .int .i64 0, .int .i64 0, .int .i64 0, .bool false] 31)).alloc (.cells #[.slice es[k].a D.zs[k].L.length es[k].c, .int .i64 (D.zs[k].safe : Int), .int .i64 s, .bool D.zs[k].fin] 93)) := (((Below.refl _ w).alloc (Nat.le_refl _) _).alloc (by simp) _).alloc (by simp; omega) _
      have kr := (Blk.new (w.alloc (.cells #[.slice (some ⟨g, 0, none⟩) D.zs.length c, .int .i64 D.size, .int .i64 D.op, .int .i64 (D.n : Int), .bool D.down] 31)) 31 #[.slice none 0 0, .int .i64 0, .int .i64 0, .int .i64 0, .bool false]).alloc (.cells #[.slice es[k].a D.zs[k].L.length es[k].c, .int .i64 (D.zs[k].safe : Int), .int .i64 s, .bool D.zs[k].fin] 93)
      rw [World.size_alloc] at kr
      obtain ⟨W3, hW⟩ : ∃ W3, W3 = ((w.alloc (.cells #[.slice (some ⟨g, 0, none⟩) D.zs.length c, .int .i64 D.size, .int .i64 D.op, .int .i64 (D.n : Int), .bool D.down] 31)).alloc (.cells #[.slice none 0 0, .int .i64 0, .int .i64 0, .int .i64 0, .bool false] 31)).alloc (.cells #[.slice es[k].a D.zs[k].L.length es[k].c, .int .i64 (D.zs[k].safe : Int), .int .i64 s, .bool D.zs[k].fin] 93) := ⟨_, rfl⟩
      rw [← hW] at hB kr ⊢
      clear hW
      have hput := put_any (h'.out.below hB) Hl.out k hk ⟨{ D.zs[k] with state := s }, es[k].a, es[k].c⟩ (hrow'.out.mods' hB) hrin'.out
      dsimp only at hput
      refine hput.mono ?_
      rintro e w4 ⟨A', c', es', rfl, href, hb4⟩
      have kr4 : Blk w4 (w.heap.size + 1) 31 _ := (hb4.block _ kr.lt).trans kr
      obtain ⟨r0, r1, r2, r3, r4, g0, g1, g2, g3, g4⟩ := kr4.five
      have Kf := hide (Blk.set5 kr4 (.slice A' (D.put k ({ D.zs[k] with state := s })).zs.length c') (.int .i64 D.size) (.int .i64 D.op) (.int .i64 (D.n : Int)) (.bool D.down))
      have Href := hide href
      have HB := hide hB
      have Hb4 := hide hb4
      have Hr := hide kr.lt
      clear href hb4 hB kr kr4 hput
      go_wp2_with fail
      refine bodyPost_ret (v := .tuple #[.agg #[.slice A' (D.put k ({ D.zs[k] with state := s })).zs.length c', .int .i64 D.size, .int .i64 D.op, .int .i64 (D.n : Int), .bool D.down], .int .i64 0]) ?_ rfl ?_
      · exact results_dev2 (fn := Try.f54) (p := 6) (u := 7) (g := w.heap.size + 1) rfl _ _ _ _ _ _ _ rfl rfl Kf.out
      · rw [hfin.out, hzf.out]
        have hst := stored5 (v0 := .slice A' (D.put k ({ D.zs[k] with state := s })).zs.length c') (v1 := .int .i64 D.size) (v2 := .int .i64 D.op) (v3 := .int .i64 (D.n : Int)) (v4 := .bool D.down) HB.out Href.out Hb4.out (r := w.heap.size + 1) (by omega) Hr.out
        exact ⟨A', c', es', rfl, hst.1, hst.2⟩
    · have e4 : (s == 4) = false := beq_eq_false_iff_ne.2 h4
      by_cases h3 : s = 3
      · have e3 : (s == 3) = true := beq_iff_eq.2 h3
        by_cases hst : D.zs[k].state = 4
        · have es4 : (D.zs[k].state != 4) = false := by simp [hst]
          have hzf := hide (Zn.fail_no (z := D.zs[k]) s (by omega))
          clear h4 h3 hst
          go_enter Try.func54, Try.ntmps54
          go_wp2_with fail
          have hB : Below w.heap.size w (((w.alloc (.cells #[.slice (some ⟨g, 0, none⟩) D.zs.length c, .int .i64 D.size, .int .i64 D.op, .int .i64 (D.n : Int), .bool D.down] 31)).alloc (.cells #[.slice none 0 0, .int .i64 0, .int .i64 0, .int .i64 0, .bool false] 31)).alloc (.cells #[.slice es[k].a D.zs[k].L.length es[k].c, .int .i64 (D.zs[k].safe : Int), .int .i64 D.zs[k].state, .bool D.zs[k].fin] 93)) := (((Below.refl _ w).alloc (Nat.le_refl _) _).alloc (by simp) _).alloc (by simp; omega) _
          have kr := (Blk.new (w.alloc (.cells #[.slice (some ⟨g, 0, none⟩) D.zs.length c, .int .i64 D.size, .int .i64 D.op, .int .i64 (D.n : Int), .bool D.down] 31)) 31 #[.slice none 0 0, .int .i64 0, .int .i64 0, .int .i64 0, .bool false]).alloc (.cells #[.slice es[k].a D.zs[k].L.length es[k].c, .int .i64 (D.zs[k].safe : Int), .int .i64 D.zs[k].state, .bool D.zs[k].fin] 93)
          rw [World.size_alloc] at kr
          obtain ⟨W3, hW⟩ : ∃ W3, W3 = ((w.alloc (.cells #[.slice (some ⟨g, 0, none⟩) D.zs.length c, .int .i64 D.size, .int .i64 D.op, .int .i64 (D.n : Int), .bool D.down] 31)).alloc (.cells #[.slice none 0 0, .int .i64 0, .int .i64 0, .int .i64 0, .bool false] 31)).alloc (.cells #[.slice es[k].a D.zs[k].L.length es[k].c, .int .i64 (D.zs[k].safe : Int), .int .i64 D.zs[k].state, .bool D.zs[k].fin] 93) := ⟨_, rfl⟩
          rw [← hW] at hB kr ⊢
          clear hW
          have hput := put_any (h'.out.below hB) Hl.out k hk ⟨D.zs[k], es[k].a, es[k].c⟩ (hrow'.out.mods' hB) hrin'.out
          dsimp only at hput
          refine hput.mono ?_
          rintro e w4 ⟨A', c', es', rfl, href, hb4⟩
          have kr4 : Blk w4 (w.heap.size + 1) 31 _ := (hb4.block _ kr.lt).trans kr
          obtain ⟨r0, r1, r2, r3, r4, g0, g1, g2, g3, g4⟩ := kr4.five
          have Kf := hide (Blk.set5 kr4 (.slice A' (D.put k (D.zs[k])).zs.length c') (.int .i64 D.size) (.int .i64 D.op) (.int .i64 (D.n : Int)) (.bool D.down))
          have Href := hide href
          have HB := hide hB
          have Hb4 := hide hb4
          have Hr := hide kr.lt
          clear href hb4 hB kr kr4 hput
          go_wp2_with fail
          refine bodyPost_ret (v := .tuple #[.agg #[.slice A' (D.put k (D.zs[k])).zs.length c', .int .i64 D.size, .int .i64 D.op, .int .i64 (D.n : Int), .bool D.down], .int .i64 0]) ?_ rfl ?_
          · exact results_dev2 (fn := Try.f54) (p := 6) (u := 7) (g := w.heap.size + 1) rfl _ _ _ _ _ _ _ rfl rfl Kf.out
          · rw [hfin.out, hzf.out]
            have hst := stored5 (v0 := .slice A' (D.put k (D.zs[k])).zs.length c') (v1 := .int .i64 D.size) (v2 := .int .i64 D.op) (v3 := .int .i64 (D.n : Int)) (v4 := .bool D.down) HB.out Href.out Hb4.out (r := w.heap.size + 1) (by omega) Hr.out
            exact ⟨A', c', es', rfl, hst.1, hst.2⟩
        · have es4 : (D.zs[k].state != 4) = true := by simp [hst]
          have hzf := hide (Zn.fail_yes (z := D.zs[k]) s (.inr ⟨h3, hst⟩))
          clear h4 h3 hst
          go_enter Try.func54, Try.ntmps54
          go_wp2_with fail
          have hB : Below w.heap.size w (((w.alloc (.cells #[.slice (some ⟨g, 0, none⟩) D.zs.length c, .int .i64 D.size, .int .i64 D.op, .int .i64 (D.n : Int), .bool D.down] 31)).alloc (.cells #[.slice none 0 0, .int .i64 0, .int .i64 0, .int .i64 0, .bool false] 31)).alloc (.cells #[.slice es[k].a D.zs[k].L.length es[k].c, .int .i64 (D.zs[k].safe : Int), .int .i64 s, .bool D.zs[k].fin] 93)) := (((Below.refl _ w).alloc (Nat.le_refl _) _).alloc (by simp) _).alloc (by simp; omega) _
          have kr := (Blk.new (w.alloc (.cells #[.slice (some ⟨g, 0, none⟩) D.zs.length c, .int .i64 D.size, .int .i64 D.op, .int .i64 (D.n : Int), .bool D.down] 31)) 31 #[.slice none 0 0, .int .i64 0, .int .i64 0, .int .i64 0, .bool false]).alloc (.cells #[.slice es[k].a D.zs[k].L.length es[k].c, .int .i64 (D.zs[k].safe : Int), .int .i64 s, .bool D.zs[k].fin] 93)
          rw [World.size_alloc] at kr
          obtain ⟨W3, hW⟩ : ∃ W3, W3 = ((w.alloc (.cells #[.slice (some ⟨g, 0, none⟩) D.zs.length c, .int .i64 D.size, .int .i64 D.op, .int .i64 (D.n : Int), .bool D.down] 31)).alloc (.cells #[.slice none 0 0, .int .i64 0, .int .i64 0, .int .i64 0, .bool false] 31)).alloc (.cells #[.slice es[k].a D.zs[k].L.length es[k].c, .int .i64 (D.zs[k].safe : Int), .int .i64 s, .bool D.zs[k].fin] 93) := ⟨_, rfl⟩
          rw [← hW] at hB kr ⊢
          clear hW
          have hput := put_any (h'.out.below hB) Hl.out k hk ⟨{ D.zs[k] with state := s }, es[k].a, es[k].c⟩ (hrow'.out.mods' hB) hrin'.out
          dsimp only at hput
          refine hput.mono ?_
          rintro e w4 ⟨A', c', es', rfl, href, hb4⟩
          have kr4 : Blk w4 (w.heap.size + 1) 31 _ := (hb4.block _ kr.lt).trans kr
          obtain ⟨r0, r1, r2, r3, r4, g0, g1, g2, g3, g4⟩ := kr4.five
          have Kf := hide (Blk.set5 kr4 (.slice A' (D.put k ({ D.zs[k] with state := s })).zs.length c') (.int .i64 D.size) (.int .i64 D.op) (.int .i64 (D.n : Int)) (.bool D.down))
          have Href := hide href
          have HB := hide hB
          have Hb4 := hide hb4
          have Hr := hide kr.lt
          clear href hb4 hB kr kr4 hput
          go_wp2_with fail
          refine bodyPost_ret (v := .tuple #[.agg #[.slice A' (D.put k ({ D.zs[k] with state := s })).zs.length c', .int .i64 D.size, .int .i64 D.op, .int .i64 (D.n : Int), .bool D.down], .int .i64 0]) ?_ rfl ?_
          · exact results_dev2 (fn := Try.f54) (p := 6) (u := 7) (g := w.heap.size + 1) rfl _ _ _ _ _ _ _ rfl rfl Kf.out
          · rw [hfin.out, hzf.out]
            have hst := stored5 (v0 := .slice A' (D.put k ({ D.zs[k] with state := s })).zs.length c') (v1 := .int .i64 D.size) (v2 := .int .i64 D.op) (v3 := .int .i64 (D.n : Int)) (v4 := .bool D.down) HB.out Href.out Hb4.out (r := w.heap.size + 1) (by omega) Hr.out
            exact ⟨A', c', es', rfl, hst.1, hst.2⟩
      · have e3 : (s == 3) = false := beq_eq_false_iff_ne.2 h3
        have hzf := hide (Zn.fail_no (z := D.zs[k]) s (by omega))
        clear h4 h3
        go_enter Try.func54, Try.ntmps54
        go_wp2_with fail
        have hB : Below w.heap.size w (((w.alloc (.cells #[.slice (some ⟨g, 0, none⟩) D.zs.length c, .int .i64 D.size, .int .i64 D.op, .int .i64 (D.n : Int), .bool D.down] 31)).alloc (.cells #[.slice none 0 0, .int .i64 0, .int .i64 0, .int .i64 0, .bool false] 31)).alloc (.cells #[.slice es[k].a D.zs[k].L.length es[k].c, .int .i64 (D.zs[k].safe : Int), .int .i64 D.zs[k].state, .bool D.zs[k].fin] 93)) := (((Below.refl _ w).alloc (Nat.le_refl _) _).alloc (by simp) _).alloc (by simp; omega) _
        have kr := (Blk.new (w.alloc (.cells #[.slice (some ⟨g, 0, none⟩) D.zs.length c, .int .i64 D.size, .int .i64 D.op, .int .i64 (D.n : Int), .bool D.down] 31)) 31 #[.slice none 0 0, .int .i64 0, .int .i64 0, .int .i64 0, .bool false]).alloc (.cells #[.slice es[k].a D.zs[k].L.length es[k].c, .int .i64 (D.zs[k].safe : Int), .int .i64 D.zs[k].state, .bool D.zs[k].fin] 93)
        rw [World.size_alloc] at kr
        obtain ⟨W3, hW⟩ : ∃ W3, W3 = ((w.alloc (.cells #[.slice (some ⟨g, 0, none⟩) D.zs.length c, .int .i64 D.size, .int .i64 D.op, .int .i64 (D.n : Int), .bool D.down] 31)).alloc (.cells #[.slice none 0 0, .int .i64 0, .int .i64 0, .int .i64 0, .bool false] 31)).alloc (.cells #[.slice es[k].a D.zs[k].L.length es[k].c, .int .i64 (D.zs[k].safe : Int), .int .i64 D.zs[k].state, .bool D.zs[k].fin] 93) := ⟨_, rfl⟩
        rw [← hW] at hB kr ⊢
        clear hW
        have hput := put_any (h'.out.below hB) Hl.out k hk ⟨D.zs[k], es[k].a, es[k].c⟩ (hrow'.out.mods' hB) hrin'.out
        dsimp only at hput
        refine hput.mono ?_
        rintro e w4 ⟨A', c', es', rfl, href, hb4⟩
        have kr4 : Blk w4 (w.heap.size + 1) 31 _ := (hb4.block _ kr.lt).trans kr
        obtain ⟨r0, r1, r2, r3, r4, g0, g1, g2, g3, g4⟩ := kr4.five
        have Kf := hide (Blk.set5 kr4 (.slice A' (D.put k (D.zs[k])).zs.length c') (.int .i64 D.size) (.int .i64 D.op) (.int .i64 (D.n : Int)) (.bool D.down))
        have Href := hide href
        have HB := hide hB
        have Hb4 := hide hb4
        have Hr := hide kr.lt
        clear href hb4 hB kr kr4 hput
        go_wp2_with fail
        refine bodyPost_ret (v := .tuple #[.agg #[.slice A' (D.put k (D.zs[k])).zs.length c', .int .i64 D.size, .int .i64 D.op, .int .i64 (D.n : Int), .bool D.down], .int .i64 0]) ?_ rfl ?_
        · exact results_dev2 (fn := Try.f54) (p := 6) (u := 7) (g := w.heap.size + 1) rfl _ _ _ _ _ _ _ rfl rfl Kf.out
        · rw [hfin.out, hzf.out]
          have hst := stored5 (v0 := .slice A' (D.put k (D.zs[k])).zs.length c') (v1 := .int .i64 D.size) (v2 := .int .i64 D.op) (v3 := .int .i64 (D.n : Int)) (v4 := .bool D.down) HB.out Href.out Hb4.out (r := w.heap.size + 1) (by omega) Hr.out
          exact ⟨A', c', es', rfl, hst.1, hst.2⟩
end
end R7
end Go.Proofs.Ytdinbhanekpjoaa
