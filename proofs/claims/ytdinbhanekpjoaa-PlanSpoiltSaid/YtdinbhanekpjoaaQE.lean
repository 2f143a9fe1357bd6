/-
  An event's Right; a drive's Plan.
-/
import Derived.Test.YtdinbhanekpjoaaQIns8
import Derived.Test.YtdinbhanekpjoaaQDrv8e
import Derived.Carry
namespace Go.Proofs.Ytdinbhanekpjoaa
open Go.RowKit
/-- Sorted by their times. -/
def Sorted8 (L : List EvV) : Prop := L.Pairwise (fun a b => a.at_ ≤ b.at_)
theorem insertEv_at (e : EvV) : ∀ (L : List EvV) (i : Nat), i ≤ L.length → Sorted8 L → (∀ j (h : j < L.length), i ≤ j → e.at_ < L[j].at_) → (∀ (_ : 0 < i) (h2 : i - 1 < L.length), L[i - 1].at_ ≤ e.at_) → insertEv e L = L.take i ++ e :: L.drop i
  | [], i, hi, _, _, _ => by
    have : i = 0 := by simpa using hi
    subst this; rfl
  | x :: l, 0, _, _, h1, _ => by
    have := h1 0 (by simp) (Nat.le_refl _)
    simp only [List.getElem_cons_zero] at this
    simp [insertEv, this]
  | x :: l, i + 1, hi, hs, h1, h2 => by
    have hx : x.at_ ≤ e.at_ := by
      have h3 := h2 (by omega) (by simp at hi ⊢; omega)
      simp only [Nat.add_sub_cancel] at h3
      cases i with
      | zero => simpa using h3
      | succ i =>
        have hm : (x :: l)[i + 1]'(by simp at hi ⊢; omega) ∈ l := by simp
        exact Int.le_trans ((List.pairwise_cons.1 hs).1 _ hm) h3
    rw [insertEv, if_neg (by omega), insertEv_at e l i (by simpa using hi) (List.pairwise_cons.1 hs).2 (fun j hj hij => by have := h1 (j + 1) (by simpa using hj) (by omega); rwa [List.getElem_cons_succ] at this) (fun h3 h4 => by
      have := h2 (by omega) (by simp; omega)
      cases i with
      | zero => omega
      | succ i => simpa using this)]
    simp
theorem insertEv_length (e : EvV) (L : List EvV) : (insertEv e L).length = L.length + 1 := by
  induction L with
  | nil => rfl
  | cons x l ih => unfold insertEv; split <;> simp [ih]
theorem insertEv_mem (e : EvV) (L : List EvV) : ∀ x, x ∈ insertEv e L ↔ x = e ∨ x ∈ L := by
  induction L with
  | nil => intro x; simp [insertEv]
  | cons y l ih =>
    intro x
    unfold insertEv
    split
    · simp
    · rw [List.mem_cons, ih, List.mem_cons]
      constructor
      · rintro (h | h | h) <;> simp [h]
      · rintro (h | h | h) <;> simp [h]
theorem insertEv_sorted (e : EvV) (L : List EvV) (h : Sorted8 L) : Sorted8 (insertEv e L) := by
  induction L with
  | nil => simp [insertEv, Sorted8]
  | cons y l ih =>
    obtain ⟨h1, h2⟩ := List.pairwise_cons.1 h
    unfold insertEv
    split
    · rename_i hlt
      refine List.pairwise_cons.2 ⟨fun x hx => ?_, h⟩
      rcases List.mem_cons.1 hx with rfl | hx
      · omega
      · have := h1 x hx; omega
    · rename_i hlt
      refine List.pairwise_cons.2 ⟨fun x hx => ?_, ih h2⟩
      rcases (insertEv_mem e l x).1 hx with rfl | hx
      · omega
      · exact h1 x hx
namespace DV
set_option maxHeartbeats 1000000 in
theorem right_any (e : EvV) (w : World) : Calls Try.prog 37 #[e.agg] w fun en w' => en = .returned (.bool e.right) ∧ Below w.heap.size w w' := by
  unfold EvV.agg
  have hb1 : Below w.heap.size w (w.alloc (.cells e.cells.toArray 66)) := (Below.refl _ w).alloc (Nat.le_refl _) _
  have ke := Blk.new w 66 e.cells.toArray
  obtain ⟨e0, e1, -⟩ := EvV.blk4 ke
  have Hb1 := hide hb1
  have fin : ∀ b, e.right = b → Hid (e.right = b) := fun _ h => hide h
  clear ke hb1
  by_cases h1 : 0 ≤ e.at_
  · by_cases h2 : 1 ≤ e.kind
    · by_cases h3 : e.kind ≤ 4
      · have hf := fin true (by simp [EvV.right, h1, h2, h3])
        clear fin
        go_enter Try.func37, Try.ntmps37
        go_wp2
        go_ret
        rw [hf.out]
        exact ⟨rfl, Hb1.out⟩
      · have hf := fin false (by simp [EvV.right, h1, h2, h3])
        clear fin
        go_enter Try.func37, Try.ntmps37
        go_wp2
        go_ret
        rw [hf.out]
        exact ⟨rfl, Hb1.out⟩
    · have hf := fin false (by simp [EvV.right, h1, h2])
      clear fin
      go_enter Try.func37, Try.ntmps37
      go_wp2
      go_ret
      rw [hf.out]
      exact ⟨rfl, Hb1.out⟩
  · have hf := fin false (by simp [EvV.right, h1])
    clear fin
    go_enter Try.func37, Try.ntmps37
    go_wp2
    go_ret
    rw [hf.out]
    exact ⟨rfl, Hb1.out⟩
theorem insert_any {w : World} {A : Option Addr} {c vb : Nat} {L : List EvV} {e : EvV} (i : Nat) (hi : i ≤ L.length) (hown : w.ownsRow 0 66 68 (.slice A L.length c) L.length (L.flatMap EvV.cells)) (hv : Blk w vb 66 e.cells.toArray) (hvA : blkOf A ≠ some vb) (hl : L.length < 65536) :
    Calls Try.prog 81 #[.slice A L.length c, .int .i64 (i : Int), .slice (some ⟨vb, 0, none⟩) 1 1] w (Ins.Done w A (L.take i ++ e :: L.drop i) (L.length + 1)) := by
  by_cases h : i = L.length
  · subst h
    have := Ins.end_any hown hv hl
    rwa [List.take_of_length_le (Nat.le_refl _), List.drop_of_length_le (Nat.le_refl _)]
  · by_cases hr : L.length + 1 ≤ c
    · exact Ins.shift_any i (by omega) hown hr hv hvA hl
    · exact Ins.grow_any i (by omega) hown (by omega) hv hl
section
variable {w : World} {q d : Nat} {X : Dr} {F FD : Nat → Prop} {A : Option Addr} {c : Nat} {bs : List Nat} {Fs : Nat → Nat → Prop} {mb n m : Nat} {Ac : Option Addr} {cc : Nat} {Ah : Option Addr} {ch : Nat}
set_option maxRecDepth 100000 in
set_option maxHeartbeats 4000000 in
theorem plan_any (h : DrvIs w q d X F FD A c bs Fs mb n Ac cc Ah ch) (e : EvV) (hs : Sorted8 X.coming) (hl : X.coming.length < 65000) :
    Calls Try.prog 41 #[.pointer (some ⟨q, 0, none⟩), e.agg] w fun en w' => en = .returned (.int .i64 (X.plan e).2) ∧ DrvDid w w' q d (X.plan e).1 F := by
  unfold EvV.agg
  have hb1 : Below w.heap.size w (w.alloc (.cells e.cells.toArray 66)) := (Below.refl _ w).alloc (Nat.le_refl _) _
  have ke := Blk.new w 66 e.cells.toArray
  have hrt := right_any e (w.alloc (.cells e.cells.toArray 66))
  unfold EvV.agg at hrt
  have H1 := hide (h.below hb1)
  have Hrt := hide hrt
  have Hb1 := hide hb1
  have Ke := hide ke
  have Hs := hide hs
  have Hl := hide hl
  have Hlt := hide h.lt
  clear h hb1 ke hrt hs hl
  by_cases hr : e.right = true
  · rw [hr] at Hrt
    by_cases hfull : 256 ≤ X.coming.length
    · have Hfin := hide (show X.plan e = (X, 17) by rw [Dr.plan, if_neg (by rw [hr]; simp), if_pos hfull])
      have d1 : decide (256 ≤ X.coming.length) = true := decide_eq_true hfull
      have d2 : decide ((256 : Int) ≤ (X.coming.length : Int)) = true := decide_eq_true (by omega)
      clear hfull hr
      go_enter Try.func41, Try.ntmps41
      go_wp2_with ((with_reducible refine wpList_load_mid ?g1 66 (.tmp 3) ?o1 w.heap.size (0) ?x1 e.cells ?d1 ?r1 ?u1 ?f1 ?i1 ?_); (case g1 => exact rfl); (case o1 => exact rfl); (case x1 => exact rfl); (case r1 => exact e.range Ke.out); (case u1 => exact Try.underlying66); (case f1 => exact rfl); (case i1 => exact Ev.size _))
      refine Hrt.out.mono ?_
      rintro en w2 ⟨rfl, hb2⟩
      have h2 := H1.out.below hb2
      obtain ⟨c0, c1, -⟩ := h2.cells
      have H2 := hide h2
      have Hb2 := hide hb2
      clear h2 hb2 Hrt
      go_wp2_with fail
      go_ret
      rw [Hfin.out]
      exact ⟨rfl, DrvDid.ahead Hb1.out (DrvDid.ahead Hb2.out H2.out.same)⟩
    · have Hfin := hide (show X.plan e = ({ X with coming := insertEv e X.coming }, 0) by rw [Dr.plan, if_neg (by rw [hr]; simp), if_neg hfull])
      have d1 : decide (256 ≤ X.coming.length) = false := decide_eq_false hfull
      have d2 : decide ((256 : Int) ≤ (X.coming.length : Int)) = false := decide_eq_false (by omega)
      clear hfull hr
      go_enter Try.func41, Try.ntmps41
      go_wp2_with ((with_reducible refine wpList_load_mid ?g1 66 (.tmp 3) ?o1 w.heap.size (0) ?x1 e.cells ?d1 ?r1 ?u1 ?f1 ?i1 ?_); (case g1 => exact rfl); (case o1 => exact rfl); (case x1 => exact rfl); (case r1 => exact e.range Ke.out); (case u1 => exact Try.underlying66); (case f1 => exact rfl); (case i1 => exact Ev.size _))
      refine Hrt.out.mono ?_
      rintro en w2 ⟨rfl, hb2⟩
      have h2 := H1.out.below hb2
      obtain ⟨c0, c1, -⟩ := h2.cells
      have k2 : Blk w2 w.heap.size 66 e.cells.toArray := (hb2.block _ Ke.out.lt).trans Ke.out
      have H2 := hide h2
      have Hb2 := hide hb2
      have K2 := hide k2
      clear h2 hb2 Hrt k2
      go_wp2_with fail
      go_loopw [5] (fun i wr => ∃ j : Nat, i = .int .i64 j ∧ j ≤ X.coming.length ∧ (∀ k (h : k < X.coming.length), j ≤ k → e.at_ < X.coming[k].at_) ∧ Mods (fun _ => False) w2 wr) (fun i _ => (intOf i).toNat)
      case atStart => exact ⟨X.coming.length, rfl, Nat.le_refl _, fun k h1 h2 => by omega, Mods.refl _ _⟩
      case round =>
        obtain ⟨j, rfl, hj, hjs, hm⟩ := hrel
        have h3 := H2.out.mods hm (fun _ _ h => h)
        have k3 : Blk wr w.heap.size 66 e.cells.toArray := K2.out.mods hm (fun h => h)
        obtain ⟨c0, c1, -⟩ := h3.cells
        obtain ⟨e0, -⟩ := EvV.blk4 k3
        have H3 := hide h3
        have K3 := hide k3
        have Hm := hide hm
        have Hjs := hide hjs
        have Hj := hide hj
        clear h3 k3 hm hjs hj
        by_cases hj0 : j = 0
        · have Hle : Hid (∀ (h : 0 < j) (h2 : j - 1 < X.coming.length), X.coming[j - 1].at_ ≤ e.at_) := hide (fun h _ => by omega)
          have g0 : decide ((0 : Int) < (j : Int)) = false := decide_eq_false (by omega)
          have g1 : decide (0 < j) = false := decide_eq_false (by omega)
          clear hj0
          go_upto_region 6 with (fail)
          go_quiet (fail)
          have Hm4 := hide (Hm.out.drewN nq)
          have H4 := hide (H3.out.drewN nq)
          have K4 : Hid (Blk (wr.drewN nq) w.heap.size 66 e.cells.toArray) := hide K3.out
          clear Hm H3 K3 c0 c1 e0
          generalize wr.drewN nq = w4 at Hm4 H4 K4 ⊢
          have Hins := hide (insertEv_at e X.coming j Hj.out Hs.out Hjs.out Hle.out)
          obtain ⟨c0, c1, -, -, fq1, -⟩ := H4.out.cells
          have hB : Below w4.heap.size w4 (w4.drew.alloc (.cells e.cells.toArray 66)) := (Below.refl _ w4).drew.alloc (Nat.le_refl _) _
          have HB := hide (H4.out.below hB)
          have hvb : Blk (w4.drew.alloc (.cells e.cells.toArray 66)) w4.heap.size 66 e.cells.toArray := Blk.new w4.drew 66 e.cells.toArray
          have hins := insert_any j Hj.out HB.out.com hvb (fun h => by have := H4.out.lt _ (H4.out.inF.2.2.2.1 _ h); omega) (by have := Hl.out; omega)
          rw [← Hins.out] at hins
          have HinsC := hide hins
          have Her := hide (e.range K4.out)
          have hSB : Hid ((w4.drew.alloc (.cells e.cells.toArray 66)).cell? ⟨q, 1, none⟩ = some (.slice Ac X.coming.length cc) ∧ (w4.drew.alloc (.cells e.cells.toArray 66)).rangeAt w.heap.size 0 e.cells) := hide ⟨HB.out.cells.2.1, ItS8.range_below hB K4.out.lt Her.out⟩
          have KB := hide (show Blk (w4.drew.alloc (.cells e.cells.toArray 66)) w.heap.size 66 e.cells.toArray from (hB.block _ K4.out.lt).trans K4.out)
          have HhB := hide hB
          clear hins hvb hB fq1
          go_upto_region 8 with (fail)
          refine Reg.wp_region_reads (fun w' => w'.cell? ⟨q, 1, none⟩ = some (.slice Ac X.coming.length cc) ∧ w'.rangeAt w.heap.size 0 e.cells) 7 9 (by decide +kernel) (by decide +kernel) ⟨c1, Her.out⟩ ?_
          simp only [List.take_succ_cons, List.take_zero, List.drop_succ_cons, List.drop_zero]
          iterate 6
            apply Reg.wpReads_step rfl
            · intro w' hS
              obtain ⟨x0, x1⟩ := hS
              go_simp
              first | done | rfl
            intro K hK
            go_simp
            refine hK _ ?_
            clear hK K
          refine Reg.wpReads_load rfl 66 (.tmp 3) rfl w.heap.size 0 rfl e.cells _ (fun w' h => h.2) Try.underlying66 rfl (Ev.size e) (fun K hK => ?_)
          go_simp
          refine hK _ ?_
          clear hK K
          refine Reg.wpReads_nil ?_
          refine Reg.wpTail_step rfl (fun K hK => ?_)
          refine Ev.wp_build1 e (.tmp 46) rfl rfl ?_
          go_simp
          refine hK _ _ (fun _ => hSB.out) ?_
          clear hK K
          refine Reg.wpTail_step rfl (fun K hK => ?_)
          go_simp
          refine HinsC.out.mono ?_
          rintro en w5 ⟨A5, c5, rfl, hown, hm5, hat⟩
          have kq : Blk w5 q 121 _ := HB.out.blk.mods hm5 (fun e => (HB.out.noC q e).1 rfl)
          have ke5 : Blk w5 w.heap.size 66 e.cells.toArray := KB.out.mods hm5 (fun e2 => by have := Hlt.out _ (H4.out.inF.2.2.2.1 _ e2); omega)
          go_simp
          refine hK _ _ (fun _ => ⟨kq.cell 1, e.range ke5⟩) ?_
          clear hK K
          refine Reg.wpTail_list _ _ _ _ (by omega) ?_
          have fq1 : w5.frozen? ⟨q, 1, none⟩ = false := kq.frozen 1
          have dq1 : w5.cell? ⟨q, 1, none⟩ = some (.slice Ac X.coming.length cc) := kq.cell 1
          rw [← insertEv_length e X.coming] at hown
          have Hst := hide (HB.out.comStep hown hm5 (fun g hg => hat g hg))
          rw [insertEv_length] at Hst
          clear hown hm5 hat kq ke5 HinsC c0 c1
          go_wp2_with fail
          refine NoPanic.normal ?_
          go_wp2_with fail
          go_ret
          rw [Hfin.out]
          refine ⟨rfl, ?_⟩
          have hb24 := Hm4.out.below (Nat.le_refl _) (fun _ h => h.elim)
          exact DrvDid.ahead Hb1.out (DrvDid.ahead Hb2.out (DrvDid.ahead hb24 (DrvDid.ahead HhB.out Hst.out)))
        · have hj1 : j - 1 < X.coming.length := by have := Hj.out; omega
          have hev := Evs.of_own (G := fun _ => True) H3.out.com (fun _ _ => trivial)
          obtain ⟨g, off, hA, -, -, hr0⟩ := hev.at_ hj1
          have hoff : off = 0 := by
            rcases H3.out.com.2 with ⟨h', h0⟩ | ⟨g', cap, cur, h', _⟩
            · omega
            · simp only [Value.slice.injEq] at h'
              rw [hA] at h'
              simp only [Option.some.injEq, Addr.mk.injEq] at h'
              exact h'.1.2.1
          subst hoff
          rw [hA] at c1
          obtain ⟨r0, -⟩ := EvV.four hr0
          rw [Nat.zero_add] at r0
          have ew : IntKind.i64.wrap ((j : Int) - 1) = ((j - 1 : Nat) : Int) := by rw [IntWalk.i64_in _ (by have := Hj.out; have := Hl.out; omega)]; omega
          have g0 : decide ((0 : Int) < (j : Int)) = true := decide_eq_true (by omega)
          have g1 : decide (0 < j) = true := decide_eq_true (by omega)
          have gi : decide (j - 1 < X.coming.length) = true := decide_eq_true hj1
          have HA := hide hA
          clear hev hr0 hA
          by_cases hgt : e.at_ < X.coming[j - 1].at_
          · have g2 : decide (e.at_ < X.coming[j - 1].at_) = true := decide_eq_true hgt
            have Hgt := hide hgt
            clear hgt
            go_upto_region 6 with (fail)
            go_quiet (fail)
            have Hm4 := hide (Hm.out.drewN nq)
            clear Hm H3 K3 c0 c1 e0 r0
            generalize wr.drewN nq = w4 at Hm4 ⊢
            go_wp2_with fail
            go_roundw
            case rel =>
              refine ⟨j - 1, rfl, by have := Hj.out; omega, fun k hk hjk => ?_, Hm4.out⟩
              by_cases hkj : k = j - 1
              · subst hkj; exact Hgt.out
              · exact Hjs.out k hk (by omega)
            case measure => simp [intOf]; omega
          · have g2 : decide (e.at_ < X.coming[j - 1].at_) = false := decide_eq_false hgt
            have Hle : Hid (∀ (h : 0 < j) (h2 : j - 1 < X.coming.length), X.coming[j - 1].at_ ≤ e.at_) := hide (fun _ _ => by omega)
            clear hgt
            go_upto_region 6 with (fail)
            go_quiet (fail)
            have Hm4 := hide (Hm.out.drewN nq)
            have H4 := hide (H3.out.drewN nq)
            have K4 : Hid (Blk (wr.drewN nq) w.heap.size 66 e.cells.toArray) := hide K3.out
            clear Hm H3 K3 c0 c1 e0 r0
            generalize wr.drewN nq = w4 at Hm4 H4 K4 ⊢
            have Hins := hide (insertEv_at e X.coming j Hj.out Hs.out Hjs.out Hle.out)
            obtain ⟨c0, c1, -, -, fq1, -⟩ := H4.out.cells
            have hB : Below w4.heap.size w4 (w4.drew.alloc (.cells e.cells.toArray 66)) := (Below.refl _ w4).drew.alloc (Nat.le_refl _) _
            have HB := hide (H4.out.below hB)
            have hvb : Blk (w4.drew.alloc (.cells e.cells.toArray 66)) w4.heap.size 66 e.cells.toArray := Blk.new w4.drew 66 e.cells.toArray
            have hins := insert_any j Hj.out HB.out.com hvb (fun h => by have := H4.out.lt _ (H4.out.inF.2.2.2.1 _ h); omega) (by have := Hl.out; omega)
            rw [← Hins.out] at hins
            have HinsC := hide hins
            have Her := hide (e.range K4.out)
            have hSB : Hid ((w4.drew.alloc (.cells e.cells.toArray 66)).cell? ⟨q, 1, none⟩ = some (.slice Ac X.coming.length cc) ∧ (w4.drew.alloc (.cells e.cells.toArray 66)).rangeAt w.heap.size 0 e.cells) := hide ⟨HB.out.cells.2.1, ItS8.range_below hB K4.out.lt Her.out⟩
            have KB := hide (show Blk (w4.drew.alloc (.cells e.cells.toArray 66)) w.heap.size 66 e.cells.toArray from (hB.block _ K4.out.lt).trans K4.out)
            have HhB := hide hB
            clear hins hvb hB fq1
            go_upto_region 8 with (fail)
            refine Reg.wp_region_reads (fun w' => w'.cell? ⟨q, 1, none⟩ = some (.slice Ac X.coming.length cc) ∧ w'.rangeAt w.heap.size 0 e.cells) 7 9 (by decide +kernel) (by decide +kernel) ⟨c1, Her.out⟩ ?_
            simp only [List.take_succ_cons, List.take_zero, List.drop_succ_cons, List.drop_zero]
            iterate 6
              apply Reg.wpReads_step rfl
              · intro w' hS
                obtain ⟨x0, x1⟩ := hS
                go_simp
                first | done | rfl
              intro K hK
              go_simp
              refine hK _ ?_
              clear hK K
            refine Reg.wpReads_load rfl 66 (.tmp 3) rfl w.heap.size 0 rfl e.cells _ (fun w' h => h.2) Try.underlying66 rfl (Ev.size e) (fun K hK => ?_)
            go_simp
            refine hK _ ?_
            clear hK K
            refine Reg.wpReads_nil ?_
            refine Reg.wpTail_step rfl (fun K hK => ?_)
            refine Ev.wp_build1 e (.tmp 46) rfl rfl ?_
            go_simp
            refine hK _ _ (fun _ => hSB.out) ?_
            clear hK K
            refine Reg.wpTail_step rfl (fun K hK => ?_)
            go_simp
            refine HinsC.out.mono ?_
            rintro en w5 ⟨A5, c5, rfl, hown, hm5, hat⟩
            have kq : Blk w5 q 121 _ := HB.out.blk.mods hm5 (fun e => (HB.out.noC q e).1 rfl)
            have ke5 : Blk w5 w.heap.size 66 e.cells.toArray := KB.out.mods hm5 (fun e2 => by have := Hlt.out _ (H4.out.inF.2.2.2.1 _ e2); omega)
            go_simp
            refine hK _ _ (fun _ => ⟨kq.cell 1, e.range ke5⟩) ?_
            clear hK K
            refine Reg.wpTail_list _ _ _ _ (by omega) ?_
            have fq1 : w5.frozen? ⟨q, 1, none⟩ = false := kq.frozen 1
            have dq1 : w5.cell? ⟨q, 1, none⟩ = some (.slice Ac X.coming.length cc) := kq.cell 1
            rw [← insertEv_length e X.coming] at hown
            have Hst := hide (HB.out.comStep hown hm5 (fun g hg => hat g hg))
            rw [insertEv_length] at Hst
            clear hown hm5 hat kq ke5 HinsC c0 c1
            go_wp2_with fail
            refine NoPanic.normal ?_
            go_wp2_with fail
            go_ret
            rw [Hfin.out]
            refine ⟨rfl, ?_⟩
            have hb24 := Hm4.out.below (Nat.le_refl _) (fun _ h => h.elim)
            exact DrvDid.ahead Hb1.out (DrvDid.ahead Hb2.out (DrvDid.ahead hb24 (DrvDid.ahead HhB.out Hst.out)))
  · have hr2 : e.right = false := by simpa using hr
    rw [hr2] at Hrt
    have Hfin := hide (show X.plan e = (X, 10) by rw [Dr.plan, if_pos hr2])
    clear hr hr2
    go_enter Try.func41, Try.ntmps41
    go_wp2_with ((with_reducible refine wpList_load_mid ?g1 66 (.tmp 3) ?o1 w.heap.size (0) ?x1 e.cells ?d1 ?r1 ?u1 ?f1 ?i1 ?_); (case g1 => exact rfl); (case o1 => exact rfl); (case x1 => exact rfl); (case r1 => exact e.range Ke.out); (case u1 => exact Try.underlying66); (case f1 => exact rfl); (case i1 => exact Ev.size _))
    refine Hrt.out.mono ?_
    rintro en w2 ⟨rfl, hb2⟩
    have H2 := hide (H1.out.below hb2)
    have Hb2 := hide hb2
    clear hb2 Hrt
    go_wp2_with fail
    go_ret
    rw [Hfin.out]
    exact ⟨rfl, DrvDid.ahead Hb1.out (DrvDid.ahead Hb2.out H2.out.same)⟩
end
end DV
end Go.Proofs.Ytdinbhanekpjoaa

/-
  A drive's Revive; a new drive.
-/
namespace Go.Proofs.Ytdinbhanekpjoaa
open Go.RowKit
namespace Dr
theorem revTo_ge (M : Marks) (D : Dv) (k : Nat) : revTo M D (k + 1) = (revTo M D k).forget D.size (k : Int) (D.lenOf (k : Int)) := rfl
end Dr
namespace DV
section
variable {w : World} {q d : Nat} {X : Dr} {F FD : Nat → Prop} {A : Option Addr} {c : Nat} {bs : List Nat} {Fs : Nat → Nat → Prop} {mb n m : Nat} {Ac : Option Addr} {cc : Nat} {Ah : Option Addr} {ch : Nat}
set_option maxRecDepth 100000 in
set_option maxHeartbeats 2000000 in
theorem revive_any (h : DrvIs w q d X F FD A c bs Fs mb n Ac cc Ah ch) (hO : X.D.Ok m) (hm : m < 65000) (hl : X.D.zs.length < 65536) (hsz : X.D.size ≤ 64) (K : Option Addr) (kc : Nat) (keep : List Int) (hK : DM.CameInts w K keep) (hKF : 0 < keep.length → ∀ b off, K = some ⟨b, off, none⟩ → ¬ F b) (hkl : keep.length ≤ maxLen) :
    Calls Try.prog 77 #[.pointer (some ⟨q, 0, none⟩), .slice K keep.length kc] w fun en w' => en = .returned (.tuple #[]) ∧ DrvDid w w' q d (X.revive keep) F := by
  obtain ⟨c0, -⟩ := h.cells
  have Hrv := hide (DM.revive_any h.dev hl (fun x hx => by have := hO.zs x hx; omega) K kc keep hK (fun h0 b off e hf => hKF h0 b off e (h.inF.2.2.1 b hf)) hkl)
  have hrok := Dv.revive_ok hO keep
  have Hrok := hide hrok
  have Hm := hide (And.intro hm (And.intro hl hsz))
  have H0 := hide h
  unfold Dr.revive
  generalize X.D.revive keep = D' at Hrv Hrok ⊢
  clear h hO hm hl hsz hK hKF hkl hrok
  go_enter Try.func77, Try.ntmps77
  go_wp2_with fail
  refine Hrv.out.mono ?_
  rintro en w1 ⟨rfl, hd⟩
  obtain ⟨F1, FD1, Fs1, h1, hm1, hF1⟩ := H0.out.devTurn hd
  obtain ⟨c0, -⟩ := h1.cells
  have Hz := hide (DM.zones_any h1.dev)
  have Hst : Hid (DrvDid w w1 q d { X with D := D', marks := Dr.revTo X.marks D' 0 } F) := hide ⟨F1, FD1, A, c, bs, Fs1, mb, n, Ac, cc, Ah, ch, h1, hm1, hF1⟩
  clear hd h1 hm1 hF1 Hrv
  go_wp2_with fail
  refine Hz.out.mono ?_
  rintro en w' ⟨rfl, rfl⟩
  go_wp2_with fail
  go_loopw [16] (fun i wr => ∃ k : Nat, i = .int .i64 k ∧ k ≤ D'.zs.length ∧ DrvDid w wr q d { X with D := D', marks := Dr.revTo X.marks D' k } F) (fun i _ => D'.zs.length - (intOf i).toNat)
  case atStart => exact ⟨0, rfl, Nat.zero_le _, Hst.out⟩
  case round =>
    obtain ⟨k, rfl, hk, F2, FD2, A2, c2, bs2, Fs2, mb2, n2, Ac2, cc2, Ah2, ch2, h2, hm2, hF2⟩ := hrel
    have hlen : D'.zs.length < 65536 := by have := Hrok.out.2.len; have := Hm.out.2.1; omega
    by_cases hlt : k < D'.zs.length
    · obtain ⟨c0, -⟩ := h2.cells
      have hlk := DM.len_any h2.dev (k : Int)
      have hfo := forget_any h2 (k : Int) (D'.lenOf (k : Int)) (fits_of (by omega) (by omega)) (by rw [Dv.lenOf_in hlt]; omega) (by rw [Dv.lenOf_in hlt]; have := (Hrok.out.1.zs _ (List.getElem_mem hlt)).1; have := Hm.out.1; omega) (by show D'.size ≤ 64; rw [Hrok.out.2.size]; exact Hm.out.2.2)
      have Hlk := hide hlk
      have Hfo := hide hfo
      have Hm2 := hide hm2
      have HF2 := hide hF2
      clear hlk hfo hm2 hF2 h2
      go_wp2_with fail
      refine Hlk.out.mono ?_
      rintro en w' ⟨rfl, rfl⟩
      go_wp2_with fail
      refine Hfo.out.mono ?_
      rintro en w3 ⟨rfl, hd⟩
      have Hd := hide (DrvDid.join Hm2.out HF2.out hd)
      clear hd Hfo Hlk
      go_wp2_with fail
      go_roundw
      case rel => exact ⟨k + 1, by go_num, by omega, Hd.out⟩
      case measure => simp [intOf]; omega
    · obtain rfl : k = D'.zs.length := by omega
      have Hfin : Hid (DrvDid w wr q d { X with D := D', marks := Dr.revTo X.marks D' D'.zs.length } F) := hide ⟨F2, FD2, A2, c2, bs2, Fs2, mb2, n2, Ac2, cc2, Ah2, ch2, h2, hm2, hF2⟩
      clear h2 hm2 hF2
      go_wp2_with fail
      go_end0
      exact ⟨rfl, Hfin.out⟩
end
/-- A drive has been laid beyond B. -/
def Laid8 (B : Nat) (w0 w : World) (q d : Nat) (X : Dr) : Prop := ∃ F FD A c bs Fs mb n Ac cc Ah ch, DrvIs w q d X F FD A c bs Fs mb n Ac cc Ah ch ∧ Below B w0 w ∧ (∀ k, F k → B ≤ k) ∧ B ≤ w.heap.size
def Dr.made (k : Nat) (size op : Int) : Dr := { D := Dv.made k size op, coming := [], happened := [], marks := Marks.none }
theorem own_nil8 (w : World) : w.ownsRow 0 66 68 (.slice none 0 0) 0 [] := World.ownsRow_nil _ _ _ _
set_option maxRecDepth 100000 in
set_option maxHeartbeats 1000000 in
theorem new_any (zones size op : Int) (w : World) (hz1 : 1 ≤ zones) (hz2 : zones ≤ 512) (hs1 : 1 ≤ size) (hs2 : size ≤ 64) (ho1 : 1 ≤ op) (ho2 : op ≤ 64) :
    Calls Try.prog 70 #[.int .i64 zones, .int .i64 size, .int .i64 op] w fun e w' => ∃ q, e = .returned (.tuple #[.pointer (some ⟨q, 0, none⟩), .int .i64 0]) ∧ Laid8 w.heap.size w w' q w.heap.size (Dr.made zones.toNat size op) := by
  have Hn := hide (DM.new_any zones size op w hz1 hz2 hs1 hs2 ho1 ho2)
  have hmm := @run_makeMap Try.prog
  go_enter Try.func70, Try.ntmps70
  go_wp2_with fail
  refine Hn.out.mono ?_
  rintro en w1 ⟨rfl, FD, A, c, bs, Fs, h1, hb1, hF1, hs1⟩
  have H1 := hide h1
  have Hb1 := hide hb1
  have HF1 := hide (And.intro hF1 hs1)
  clear h1 hb1 hF1 hs1 Hn
  go_wp2_with fail
  go_ret2
  have hbm : Below w1.heap.size w1 (w1.alloc (.map #[] 0)) := (Below.refl _ w1).alloc (Nat.le_refl _) _
  have hbq : Below (w1.alloc (.map #[] 0)).heap.size (w1.alloc (.map #[] 0)) ((w1.alloc (.map #[] 0)).alloc (.cells #[.pointer (some ⟨w.heap.size, 0, none⟩), .slice none 0 0, .slice none 0 0, .map (some w1.heap.size)] 121)) := (Below.refl _ _).alloc (Nat.le_refl _) _
  have hb12 : Below w1.heap.size w1 ((w1.alloc (.map #[] 0)).alloc (.cells #[.pointer (some ⟨w.heap.size, 0, none⟩), .slice none 0 0, .slice none 0 0, .map (some w1.heap.size)] 121)) := hbm.trans (hbq.mono (by simp))
  have kq : Blk ((w1.alloc (.map #[] 0)).alloc (.cells #[.pointer (some ⟨w.heap.size, 0, none⟩), .slice none 0 0, .slice none 0 0, .map (some w1.heap.size)] 121)) (w1.heap.size + 1) 121 #[.pointer (some ⟨w.heap.size, 0, none⟩), .slice none 0 0, .slice none 0 0, .map (some w1.heap.size)] := by
    have := Blk.new (w1.alloc (.map #[] 0)) 121 #[.pointer (some ⟨w.heap.size, 0, none⟩), .slice none 0 0, .slice none 0 0, .map (some w1.heap.size)]
    rwa [World.size_alloc] at this
  have hlt := H1.out.lt
  have hsz := HF1.out.2
  refine ⟨w1.heap.size + 1, by simp, fun k => FD k ∨ k = w1.heap.size ∨ k = w1.heap.size + 1, FD, A, c, bs, Fs, w1.heap.size, 0, none, 0, none, 0, ⟨kq, H1.out.below hb12, own_nil8 _, own_nil8 _, (MapIs.made w1).below hbq, Nat.le_refl _, ⟨.inr (.inr rfl), .inr (.inl rfl), fun k hk => .inl hk, fun g hg => by simp [blkOf] at hg, fun g hg => by simp [blkOf] at hg⟩, ⟨fun hf => by have := hlt _ hf; omega, fun hf => by have := hlt _ hf; omega, by omega⟩, fun g hg => by simp [blkOf] at hg, fun g hg => by simp [blkOf] at hg, fun g hg => by simp [blkOf] at hg, ?_⟩, Hb1.out.trans (hb12.mono hsz), ?_, Nat.le_trans hsz hb12.size⟩
  · rintro k (hk | rfl | rfl)
    · have := hlt k hk; rw [World.size_alloc, World.size_alloc]; omega
    · rw [World.size_alloc, World.size_alloc]; omega
    · rw [World.size_alloc, World.size_alloc]; omega
  · rintro k (hk | rfl | rfl)
    · exact HF1.out.1 k hk
    · omega
    · omega
set_option maxHeartbeats 1000000 in
theorem new_no (zones size op : Int) (w : World) (h : ¬ (1 ≤ zones ∧ zones ≤ 512 ∧ 1 ≤ size ∧ size ≤ 64 ∧ 1 ≤ op ∧ op ≤ 64)) :
    Calls Try.prog 70 #[.int .i64 zones, .int .i64 size, .int .i64 op] w fun e w' => e = .returned (.tuple #[.pointer none, .int .i64 13]) ∧ Below w.heap.size w w' := by
  have Hn := hide (DM.new_no zones size op w h)
  clear h
  go_enter Try.func70, Try.ntmps70
  go_wp2_with fail
  refine Hn.out.mono ?_
  rintro en w1 ⟨rfl, hb⟩
  go_wp2_with fail
  go_ret2
  exact ⟨rfl, hb⟩
end DV
end Go.Proofs.Ytdinbhanekpjoaa

/-
  A drive's play in plain words: one step of it, and what every step keeps.
-/
namespace Go.Proofs.Ytdinbhanekpjoaa
open Go.RowKit

/-- A step, as it came in: the numbers, the sector and the ints of a device's step, and an event. -/
structure OpP where
  o : OpV
  e : EvV
def OpP.cells (p : OpP) : List Value := p.o.cells ++ p.e.cells
theorem OpP.length (p : OpP) : p.cells.length = 136 := by simp [OpP.cells, p.o.length, p.e.length]
structure OpP.Fits (p : OpP) : Prop where
  zone : fits p.o.zone
  off : fits p.o.off
  ev : p.e.Fits
namespace Dr
/-- An event is planned n times. -/
def planN (X : Dr) (e : EvV) : Nat → Dr
  | 0 => X
  | n + 1 => ((planN X e n).plan e).1
def times (off : Int) : Nat := (max (min off 300) 0).toNat
def play (X : Dr) (p : OpP) : Dr :=
  if p.o.kind = 1 then (X.append p.o.zone p.o.s).1 else if p.o.kind = 2 then (X.read p.o.zone p.o.off).1 else if p.o.kind = 3 then (X.reset p.o.zone).1 else if p.o.kind = 4 then (X.finish p.o.zone).1
  else if p.o.kind = 5 then X.flush.1 else if p.o.kind = 6 then X.revive p.o.keep else if p.o.kind = 7 then (X.plan p.e).1 else if p.o.kind = 8 then X.planN p.e (times p.o.off) else X
/-- What every step keeps, m: how many there were. -/
structure Good (m : Nat) (X : Dr) : Prop where
  ok : X.D.Ok m
  fit : ∀ e ∈ X.coming, e.Fits
  srt : Sorted8 X.coming
  cnt : X.happened.length + X.coming.length ≤ 300 * m
  mks : ∀ z o, 0 ≤ (X.marks z o).2 ∧ (X.marks z o).2 ≤ (X.happened.length : Int)
theorem Good.bd {m : Nat} {X : Dr} (h : X.Good m) (hm : m < 200) : X.Bd :=
  ⟨fun x hx => by have := (h.ok.zs x hx).1; omega, h.fit, by have := h.cnt; omega, h.mks⟩
theorem Good.mono {m m' : Nat} {X : Dr} (h : X.Good m) (hm : m ≤ m') : X.Good m' := ⟨h.ok.mono hm, h.fit, h.srt, by have := h.cnt; omega, h.mks⟩

theorem mks_upd {M : Marks} {B : Int} (h : ∀ z o, 0 ≤ (M z o).2 ∧ (M z o).2 ≤ B) (z o : Int) : ∀ z' o', 0 ≤ (M.upd z o (Sec.zero, 0) z' o').2 ∧ (M.upd z o (Sec.zero, 0) z' o').2 ≤ B := fun z' o' => by
  have hB := h z o
  unfold Marks.upd
  split
  · exact ⟨Int.le_refl _, by show (0 : Int) ≤ B; omega⟩
  · exact h z' o'
theorem mks_forget {M : Marks} {B : Int} (h : ∀ z o, 0 ≤ (M z o).2 ∧ (M z o).2 ≤ B) (s z f : Int) : ∀ z' o', 0 ≤ (M.forget s z f z' o').2 ∧ (M.forget s z f z' o').2 ≤ B := fun z' o' => by
  have hB := h z f
  unfold Marks.forget
  split
  · exact ⟨Int.le_refl _, by show (0 : Int) ≤ B; omega⟩
  · exact h z' o'
theorem mks_rev {M : Marks} {B : Int} (h : ∀ z o, 0 ≤ (M z o).2 ∧ (M z o).2 ≤ B) (D : Dv) : ∀ k z o, 0 ≤ (revTo M D k z o).2 ∧ (revTo M D k z o).2 ≤ B
  | 0 => h
  | k + 1 => mks_forget (mks_rev h D k) _ _ _

theorem happen_sum (X : Dr) (e : EvV) (l : List EvV) (hc : X.coming = e :: l) : (({ X with coming := l } : Dr).happen e).happened.length + (({ X with coming := l } : Dr).happen e).coming.length = X.happened.length + X.coming.length := by
  rw [happen_coming, happen_happened, hc]
  simp
  omega
/-- What is to come stays sorted, and none is lost. -/
theorem due_more {X : Dr} (hs : Sorted8 X.coming) : Sorted8 X.due.coming ∧ X.due.happened.length + X.due.coming.length = X.happened.length + X.coming.length ∧ (∀ e ∈ X.due.coming, e ∈ X.coming) :=
  due_ind (P := fun Y => Sorted8 Y.coming ∧ Y.happened.length + Y.coming.length = X.happened.length + X.coming.length ∧ ∀ e ∈ Y.coming, e ∈ X.coming) X ⟨hs, rfl, fun _ h => h⟩ (fun Y e l hY hc _ _ => by
    refine ⟨?_, (happen_sum Y e l hc).trans hY.2.1, ?_⟩
    · rw [happen_coming]
      have := hY.1
      rw [hc] at this
      exact (List.pairwise_cons.1 this).2
    · rw [happen_coming]
      exact fun f hf => hY.2.2 f (by rw [hc]; exact List.mem_cons_of_mem _ hf))
theorem Good.due {m : Nat} {X : Dr} (h : X.Good m) (hm : m < 200) : X.due.Good m ∧ X.D.Like X.due.D ∧ X.due.D.n = X.D.n := by
  obtain ⟨h1, h2, h3, h4⟩ := due_keeps (h.bd hm) h.ok
  obtain ⟨h5, h6, h7⟩ := due_more h.srt
  exact ⟨⟨h4, h1.fit, h5, by have := h.cnt; omega, h1.mks⟩, h3, h2⟩
theorem Good.begin {m : Nat} {X : Dr} (h : X.Good m) (hm : m < 200) (z : Int) : (X.begin_ z).Good m ∧ X.D.Like (X.begin_ z).D ∧ (X.begin_ z).D.n = X.D.n := by
  unfold begin_
  split
  · exact h.due hm
  · exact ⟨h, .refl _, rfl⟩
/-- The device takes a step, and marks are made or forgotten. -/
theorem Good.dev {m : Nat} {X : Dr} (h : X.Good m) {D' : Dv} (hD : D'.Ok (m + 1)) {M : Marks} (hM : ∀ z o, 0 ≤ (M z o).2 ∧ (M z o).2 ≤ (X.happened.length : Int)) : Good (m + 1) { X with D := D', marks := M } :=
  ⟨hD, h.fit, h.srt, by have := h.cnt; show X.happened.length + X.coming.length ≤ _; omega, hM⟩
theorem plan_D (X : Dr) (e : EvV) : (X.plan e).1.D = X.D ∧ (X.plan e).1.happened = X.happened ∧ (X.plan e).1.marks = X.marks := by
  unfold plan
  split
  · exact ⟨rfl, rfl, rfl⟩
  · split <;> exact ⟨rfl, rfl, rfl⟩
theorem plan_coming (X : Dr) (e : EvV) : (X.plan e).1.coming = X.coming ∨ (X.plan e).1.coming = insertEv e X.coming := by
  unfold plan
  split
  · exact .inl rfl
  · split
    · exact .inl rfl
    · exact .inr rfl
/-- An event is planned: m steps, k events more. -/
structure Good2 (m k : Nat) (X : Dr) : Prop where
  ok : X.D.Ok m
  fit : ∀ e ∈ X.coming, e.Fits
  srt : Sorted8 X.coming
  cnt : X.happened.length + X.coming.length ≤ 300 * m + k
  mks : ∀ z o, 0 ≤ (X.marks z o).2 ∧ (X.marks z o).2 ≤ (X.happened.length : Int)
theorem Good2.plan {m k : Nat} {X : Dr} (h : X.Good2 m k) {e : EvV} (he : e.Fits) : (X.plan e).1.Good2 m (k + 1) := by
  obtain ⟨h1, h2, h3⟩ := plan_D X e
  rcases plan_coming X e with hc | hc
  · exact ⟨by rw [h1]; exact h.ok, by rw [hc]; exact h.fit, by rw [hc]; exact h.srt, by rw [hc, h2]; have := h.cnt; omega, by rw [h2, h3]; exact h.mks⟩
  · refine ⟨by rw [h1]; exact h.ok, fun f hf => ?_, by rw [hc]; exact insertEv_sorted e _ h.srt, ?_, by rw [h2, h3]; exact h.mks⟩
    · rw [hc] at hf
      rcases (insertEv_mem e _ f).1 hf with rfl | hf
      · exact he
      · exact h.fit f hf
    · rw [hc, h2, insertEv_length]
      have := h.cnt
      omega
theorem Good2.planN {m : Nat} {X : Dr} (h : X.Good2 m 0) {e : EvV} (he : e.Fits) : ∀ n, (X.planN e n).Good2 m n
  | 0 => h
  | n + 1 => (Good2.planN h he n).plan he
theorem planN_D (X : Dr) (e : EvV) : ∀ n, (X.planN e n).D = X.D ∧ (X.planN e n).happened = X.happened ∧ (X.planN e n).marks = X.marks
  | 0 => ⟨rfl, rfl, rfl⟩
  | n + 1 => by
    obtain ⟨h1, h2, h3⟩ := planN_D X e n
    obtain ⟨k1, k2, k3⟩ := plan_D (X.planN e n) e
    exact ⟨k1.trans h1, k2.trans h2, k3.trans h3⟩
theorem times_le (off : Int) : times off ≤ 300 := by unfold times; omega
theorem Good.two {m : Nat} {X : Dr} (h : X.Good m) : X.Good2 m 0 := ⟨h.ok, h.fit, h.srt, h.cnt, h.mks⟩
theorem Good2.one {m k : Nat} {X : Dr} (h : X.Good2 m k) (hk : k ≤ 300) : X.Good (m + 1) := ⟨h.ok.mono (by omega), h.fit, h.srt, by have := h.cnt; omega, h.mks⟩
theorem Good.play {m : Nat} {X : Dr} (h : X.Good m) (hm : m < 200) {p : OpP} (hp : p.Fits) : (X.play p).Good (m + 1) ∧ X.D.Like (X.play p).D := by
  obtain ⟨hb, hbl, -⟩ := h.begin hm p.o.zone
  obtain ⟨hd, hdl, -⟩ := h.due hm
  unfold Dr.play
  split
  · obtain ⟨k1, k2⟩ := Dv.append_ok hb.ok p.o.zone p.o.s
    refine ⟨hb.dev k1 ?_, hbl.trans k2⟩
    split
    · exact mks_upd hb.mks _ _
    · exact hb.mks
  split
  · obtain ⟨k1, k2⟩ := Dv.read_ok hb.ok p.o.zone p.o.off
    exact ⟨hb.dev k1 hb.mks, hbl.trans k2⟩
  split
  · obtain ⟨k1, k2⟩ := Dv.reset_ok hb.ok p.o.zone
    refine ⟨hb.dev k1 ?_, hbl.trans k2⟩
    split
    · exact mks_forget hb.mks _ _ _
    · exact hb.mks
  split
  · obtain ⟨k1, k2⟩ := Dv.finish_ok hb.ok p.o.zone
    exact ⟨hb.dev k1 hb.mks, hbl.trans k2⟩
  split
  · obtain ⟨k1, k2⟩ := Dv.flush_ok hd.ok
    exact ⟨hd.dev k1 hd.mks, hdl.trans k2⟩
  split
  · obtain ⟨k1, k2⟩ := Dv.revive_ok h.ok p.o.keep
    exact ⟨h.dev (k1.mono (by omega)) (mks_rev h.mks _ _), k2⟩
  split
  · refine ⟨(h.two.plan hp.ev).one (by omega), ?_⟩
    rw [(plan_D X p.e).1]; exact .refl _
  split
  · refine ⟨(h.two.planN hp.ev _).one (times_le _), ?_⟩
    rw [(planN_D X p.e _).1]; exact .refl _
  · exact ⟨h.mono (by omega), .refl _⟩
theorem Good.made (k : Nat) (size op : Int) : (DV.Dr.made k size op).Good 0 := by
  refine ⟨⟨Nat.le_refl _, fun x hx => ?_⟩, fun e he => by simp [DV.Dr.made] at he, by simp [DV.Dr.made, Sorted8], by simp [DV.Dr.made], fun z o => by simp [DV.Dr.made, Marks.none]⟩
  have := List.eq_of_mem_replicate (show x ∈ List.replicate k (Zn.new size) from hx)
  subst this
  exact ⟨Nat.le_refl _, Nat.le_refl _, by simp [Zn.new], rfl⟩
/-- As many steps of a play as k. -/
def playTo (X : Dr) (ps : List OpP) (k : Nat) : Dr := (ps.take k).foldl play X
theorem playTo_zero (X : Dr) (ps : List OpP) : X.playTo ps 0 = X := rfl
theorem playTo_succ (X : Dr) (ps : List OpP) (k : Nat) (hk : k < ps.length) : X.playTo ps (k + 1) = (X.playTo ps k).play ps[k] := by
  unfold playTo
  rw [List.take_succ_eq_append_getElem hk, List.foldl_append]
  rfl
theorem Good.playTo {m : Nat} {X : Dr} (h : X.Good m) {ps : List OpP} (hp : ∀ p ∈ ps, p.Fits) : ∀ k, k ≤ ps.length → m + k < 200 → (X.playTo ps k).Good (m + k) ∧ X.D.Like (X.playTo ps k).D
  | 0, _, _ => ⟨h, .refl _⟩
  | k + 1, hk, hm => by
    obtain ⟨h1, h2⟩ := Good.playTo h hp k (by omega) (by omega)
    obtain ⟨h3, h4⟩ := h1.play (by omega) (hp _ (List.getElem_mem (show k < ps.length by omega)))
    rw [playTo_succ X ps k (by omega)]
    exact ⟨h3, h2.trans h4⟩
end Dr
end Go.Proofs.Ytdinbhanekpjoaa
