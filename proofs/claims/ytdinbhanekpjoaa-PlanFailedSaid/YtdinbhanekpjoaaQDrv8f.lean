/-
  An event's Right; a drive's Plan.
-/
import Derived.Test.YtdinbhanekpjoaaQIns8
import Derived.Test.YtdinbhanekpjoaaQDrv8e
namespace Go.Proofs.Ytdinbhanekpjoaa
open Go.RowKit
/-- Sorted by their times. -/
def Sorted8 (L : List EvV) : Prop := L.Pairwise (fun a b => a.at_ ≤ b.at_)
theorem insertEv_at (e : EvV) : ∀ (L : List EvV) (i : Nat), i ≤ L.length → Sorted8 L → (∀ j (h : j < L.length), i ≤ j → e.at_ < L[j].at_) → (∀ (_ : 0 < i) (h2 : i - 1 < L.length), L[i - 1].at_ ≤ e.at_) → insertEv e L = L.take i ++ e :: L.drop i
  | [], i, hi, _, _, _ => by
    have : i = 0 := by simpa using hi
    subst this; rfl
  | x :: l, 0, _, _, h1, _ => by
    have := h1 0 (by simp) (Nat.le_refl _)
    simp only [List.getElem_cons_zero] at this
    simp [insertEv, this]
  | x :: l, i + 1, hi, hs, h1, h2 => by
    have hx : x.at_ ≤ e.at_ := by
      have h3 := h2 (by omega) (by simp at hi ⊢; omega)
      simp only [Nat.add_sub_cancel] at h3
      cases i with
      | zero => simpa using h3
      | succ i =>
        have hm : (x :: l)[i + 1]'(by simp at hi ⊢; omega) ∈ l := by simp
        exact Int.le_trans ((List.pairwise_cons.1 hs).1 _ hm) h3
    rw [insertEv, if_neg (by omega), insertEv_at e l i (by simpa using hi) (List.pairwise_cons.1 hs).2 (fun j hj hij => by have := h1 (j + 1) (by simpa using hj) (by omega); rwa [List.getElem_cons_succ] at this) (fun h3 h4 => by
      have := h2 (by omega) (by simp; omega)
      cases i with
      | zero => omega
      | succ i => simpa using this)]
    simp
theorem insertEv_length (e : EvV) (L : List EvV) : (insertEv e L).length = L.length + 1 := by
  induction L with
  | nil => rfl
  | cons x l ih => unfold insertEv; split <;> simp [ih]
theorem insertEv_mem (e : EvV) (L : List EvV) : ∀ x, x ∈ insertEv e L ↔ x = e ∨ x ∈ L := by
  induction L with
  | nil => intro x; simp [insertEv]
  | cons y l ih =>
    intro x
    unfold insertEv
    split
    · simp
    · rw [List.mem_cons, ih, List.mem_cons]
      constructor
      · rintro (h | h | h) <;> simp [h]
      · rintro (h | h | h) <;> simp [h]
theorem insertEv_sorted (e : EvV) (L : List EvV) (h : Sorted8 L) : Sorted8 (insertEv e L) := by
  induction L with
  | nil => simp [insertEv, Sorted8]
  | cons y l ih =>
    obtain ⟨h1, h2⟩ := List.pairwise_cons.1 h
    unfold insertEv
    split
    · rename_i hlt
      refine List.pairwise_cons.2 ⟨fun x hx => ?_, h⟩
      rcases List.mem_cons.1 hx with rfl | hx
      · omega
      · have := h1 x hx; omega
    · rename_i hlt
      refine List.pairwise_cons.2 ⟨fun x hx => ?_, ih h2⟩
      rcases (insertEv_mem e l x).1 hx with rfl | hx
      · omega
      · exact h1 x hx
namespace DV
set_option maxHeartbeats 1000000 in
theorem right_any (e : EvV) (w : World) : Calls Try.prog 37 #[e.agg] w fun en w' => en = .returned (.bool e.right) ∧ Below w.heap.size w w' := by
  unfold EvV.agg
  have hb1 : Below w.heap.size w (w.alloc (.cells e.cells.toArray 66)) := (Below.refl _ w).alloc (Nat.le_refl _) _
  have ke := Blk.new w 66 e.cells.toArray
  obtain ⟨e0, e1, -⟩ := EvV.blk4 ke
  have Hb1 := hide hb1
  have fin : ∀ b, e.right = b → Hid (e.right = b) := fun _ h => hide h
  clear ke hb1
  by_cases h1 : 0 ≤ e.at_
  · by_cases h2 : 1 ≤ e.kind
    · by_cases h3 : e.kind ≤ 4
      · have hf := fin true (by simp [EvV.right, h1, h2, h3])
        clear fin
        go_enter Try.func37, Try.ntmps37
        go_wp2
        go_ret
        rw [hf.out]
        exact ⟨rfl, Hb1.out⟩
      · have hf := fin false (by simp [EvV.right, h1, h2, h3])
        clear fin
        go_enter Try.func37, Try.ntmps37
        go_wp2
        go_ret
        rw [hf.out]
        exact ⟨rfl, Hb1.out⟩
    · have hf := fin false (by simp [EvV.right, h1, h2])
      clear fin
      go_enter Try.func37, Try.ntmps37
      go_wp2
      go_ret
      rw [hf.out]
      exact ⟨rfl, Hb1.out⟩
  · have hf := fin false (by simp [EvV.right, h1])
    clear fin
    go_enter Try.func37, Try.ntmps37
    go_wp2
    go_ret
    rw [hf.out]
    exact ⟨rfl, Hb1.out⟩
theorem insert_any {w : World} {A : Option Addr} {c vb : Nat} {L : List EvV} {e : EvV} (i : Nat) (hi : i ≤ L.length) (hown : w.ownsRow 0 66 68 (.slice A L.length c) L.length (L.flatMap EvV.cells)) (hv : Blk w vb 66 e.cells.toArray) (hvA : blkOf A ≠ some vb) (hl : L.length < 65536) :
    Calls Try.prog 81 #[.slice A L.length c, .int .i64 (i : Int), .slice (some ⟨vb, 0, none⟩) 1 1] w (Ins.Done w A (L.take i ++ e :: L.drop i) (L.length + 1)) := by
  by_cases h : i = L.length
  · subst h
    have := Ins.end_any hown hv hl
    rwa [List.take_of_length_le (Nat.le_refl _), List.drop_of_length_le (Nat.le_refl _)]
  · by_cases hr : L.length + 1 ≤ c
    · exact Ins.shift_any i (by omega) hown hr hv hvA hl
    · exact Ins.grow_any i (by omega) hown (by omega) hv hl
section
variable {w : World} {q d : Nat} {X : Dr} {F FD : Nat → Prop} {A : Option Addr} {c : Nat} {bs : List Nat} {Fs : Nat → Nat → Prop} {mb n m : Nat} {Ac : Option Addr} {cc : Nat} {Ah : Option Addr} {ch : Nat}
set_option maxRecDepth 100000 in
set_option maxHeartbeats 4000000 in
theorem plan_any (h : DrvIs w q d X F FD A c bs Fs mb n Ac cc Ah ch) (e : EvV) (hs : Sorted8 X.coming) (hl : X.coming.length < 65000) :
    Calls Try.prog 41 #[.pointer (some ⟨q, 0, none⟩), e.agg] w fun en w' => en = .returned (.int .i64 (X.plan e).2) ∧ DrvDid w w' q d (X.plan e).1 F := by
  unfold EvV.agg
  have hb1 : Below w.heap.size w (w.alloc (.cells e.cells.toArray 66)) := (Below.refl _ w).alloc (Nat.le_refl _) _
  have ke := Blk.new w 66 e.cells.toArray
  have hrt := right_any e (w.alloc (.cells e.cells.toArray 66))
  unfold EvV.agg at hrt
  have H1 := hide (h.below hb1)
  have Hrt := hide hrt
  have Hb1 := hide hb1
  have Ke := hide ke
  have Hs := hide hs
  have Hl := hide hl
  have Hlt := hide h.lt
  clear h hb1 ke hrt hs hl
  by_cases hr : e.right = true
  · rw [hr] at Hrt
    by_cases hfull : 256 ≤ X.coming.length
    · have Hfin := hide (show X.plan e = (X, 17) by rw [Dr.plan, if_neg (by rw [hr]; simp), if_pos hfull])
      have d1 : decide (256 ≤ X.coming.length) = true := decide_eq_true hfull
      have d2 : decide ((256 : Int) ≤ (X.coming.length : Int)) = true := decide_eq_true (by omega)
      clear hfull hr
      go_enter Try.func41, Try.ntmps41
      go_wp2_with ((with_reducible refine wpList_load_mid ?g1 66 (.tmp 3) ?o1 w.heap.size (0) ?x1 e.cells ?d1 ?r1 ?u1 ?f1 ?i1 ?_); (case g1 => exact rfl); (case o1 => exact rfl); (case x1 => exact rfl); (case r1 => exact e.range Ke.out); (case u1 => exact Try.underlying66); (case f1 => exact rfl); (case i1 => exact Ev.size _))
      refine Hrt.out.mono ?_
      rintro en w2 ⟨rfl, hb2⟩
      have h2 := H1.out.below hb2
      obtain ⟨c0, c1, -⟩ := h2.cells
      have H2 := hide h2
      have Hb2 := hide hb2
      clear h2 hb2 Hrt
      go_wp2_with fail
      go_ret
      rw [Hfin.out]
      exact ⟨rfl, DrvDid.ahead Hb1.out (DrvDid.ahead Hb2.out H2.out.same)⟩
    · have Hfin := hide (show X.plan e = ({ X with coming := insertEv e X.coming }, 0) by rw [Dr.plan, if_neg (by rw [hr]; simp), if_neg hfull])
      have d1 : decide (256 ≤ X.coming.length) = false := decide_eq_false hfull
      have d2 : decide ((256 : Int) ≤ (X.coming.length : Int)) = false := decide_eq_false (by omega)
      clear hfull hr
      go_enter Try.func41, Try.ntmps41
      go_wp2_with ((with_reducible refine wpList_load_mid ?g1 66 (.tmp 3) ?o1 w.heap.size (0) ?x1 e.cells ?d1 ?r1 ?u1 ?f1 ?i1 ?_); (case g1 => exact rfl); (case o1 => exact rfl); (case x1 => exact rfl); (case r1 => exact e.range Ke.out); (case u1 => exact Try.underlying66); (case f1 => exact rfl); (case i1 => exact Ev.size _))
      refine Hrt.out.mono ?_
      rintro en w2 ⟨rfl, hb2⟩
      have h2 := H1.out.below hb2
      obtain ⟨c0, c1, -⟩ := h2.cells
      have k2 : Blk w2 w.heap.size 66 e.cells.toArray := (hb2.block _ Ke.out.lt).trans Ke.out
      have H2 := hide h2
      have Hb2 := hide hb2
      have K2 := hide k2
      clear h2 hb2 Hrt k2
      go_wp2_with fail
      go_loopw [5] (fun i wr => ∃ j : Nat, i = .int .i64 j ∧ j ≤ X.coming.length ∧ (∀ k (h : k < X.coming.length), j ≤ k → e.at_ < X.coming[k].at_) ∧ Mods (fun _ => False) w2 wr) (fun i _ => (intOf i).toNat)
      case atStart => exact ⟨X.coming.length, rfl, Nat.le_refl _, fun k h1 h2 => by omega, Mods.refl _ _⟩
      case round =>
        obtain ⟨j, rfl, hj, hjs, hm⟩ := hrel
        have h3 := H2.out.mods hm (fun _ _ h => h)
        have k3 : Blk wr w.heap.size 66 e.cells.toArray := K2.out.mods hm (fun h => h)
        obtain ⟨c0, c1, -⟩ := h3.cells
        obtain ⟨e0, -⟩ := EvV.blk4 k3
        have H3 := hide h3
        have K3 := hide k3
        have Hm := hide hm
        have Hjs := hide hjs
        have Hj := hide hj
        clear h3 k3 hm hjs hj
        by_cases hj0 : j = 0
        · have Hle : Hid (∀ (h : 0 < j) (h2 : j - 1 < X.coming.length), X.coming[j - 1].at_ ≤ e.at_) := hide (fun h _ => by omega)
          have g0 : decide ((0 : Int) < (j : Int)) = false := decide_eq_false (by omega)
          have g1 : decide (0 < j) = false := decide_eq_false (by omega)
          clear hj0
          go_upto_region 6 with (fail)
          go_quiet (fail)
          have Hm4 := hide (Hm.out.drewN nq)
          have H4 := hide (H3.out.drewN nq)
          have K4 : Hid (Blk (wr.drewN nq) w.heap.size 66 e.cells.toArray) := hide K3.out
          clear Hm H3 K3 c0 c1 e0
          generalize wr.drewN nq = w4 at Hm4 H4 K4 ⊢
          have Hins := hide (insertEv_at e X.coming j Hj.out Hs.out Hjs.out Hle.out)
          obtain ⟨c0, c1, -, -, fq1, -⟩ := H4.out.cells
          have hB : Below w4.heap.size w4 (w4.drew.alloc (.cells e.cells.toArray 66)) := (Below.refl _ w4).drew.alloc (Nat.le_refl _) _
          have HB := hide (H4.out.below hB)
          have hvb : Blk (w4.drew.alloc (.cells e.cells.toArray 66)) w4.heap.size 66 e.cells.toArray := Blk.new w4.drew 66 e.cells.toArray
          have hins := insert_any j Hj.out HB.out.com hvb (fun h => by have := H4.out.lt _ (H4.out.inF.2.2.2.1 _ h); omega) (by have := Hl.out; omega)
          rw [← Hins.out] at hins
          have HinsC := hide hins
          have Her := hide (e.range K4.out)
          have hSB : Hid ((w4.drew.alloc (.cells e.cells.toArray 66)).cell? ⟨q, 1, none⟩ = some (.slice Ac X.coming.length cc) ∧ (w4.drew.alloc (.cells e.cells.toArray 66)).rangeAt w.heap.size 0 e.cells) := hide ⟨HB.out.cells.2.1, ItS8.range_below hB K4.out.lt Her.out⟩
          have KB := hide (show Blk (w4.drew.alloc (.cells e.cells.toArray 66)) w.heap.size 66 e.cells.toArray from (hB.block _ K4.out.lt).trans K4.out)
          have HhB := hide hB
          clear hins hvb hB fq1
          go_upto_region 8 with (fail)
          refine Reg.wp_region_reads (fun w' => w'.cell? ⟨q, 1, none⟩ = some (.slice Ac X.coming.length cc) ∧ w'.rangeAt w.heap.size 0 e.cells) 7 9 (by decide +kernel) (by decide +kernel) ⟨c1, Her.out⟩ ?_
          simp only [List.take_succ_cons, List.take_zero, List.drop_succ_cons, List.drop_zero]
          iterate 6
            apply Reg.wpReads_step rfl
            · intro w' hS
              obtain ⟨x0, x1⟩ := hS
              go_simp
              first | done | rfl
            intro K hK
            go_simp
            refine hK _ ?_
            clear hK K
          refine Reg.wpReads_load rfl 66 (.tmp 3) rfl w.heap.size 0 rfl e.cells _ (fun w' h => h.2) Try.underlying66 rfl (Ev.size e) (fun K hK => ?_)
          go_simp
          refine hK _ ?_
          clear hK K
          refine Reg.wpReads_nil ?_
          refine Reg.wpTail_step rfl (fun K hK => ?_)
          refine Ev.wp_build1 e (.tmp 46) rfl rfl ?_
          go_simp
          refine hK _ _ (fun _ => hSB.out) ?_
          clear hK K
          refine Reg.wpTail_step rfl (fun K hK => ?_)
          go_simp
          refine HinsC.out.mono ?_
          rintro en w5 ⟨A5, c5, rfl, hown, hm5, hat⟩
          have kq : Blk w5 q 121 _ := HB.out.blk.mods hm5 (fun e => (HB.out.noC q e).1 rfl)
          have ke5 : Blk w5 w.heap.size 66 e.cells.toArray := KB.out.mods hm5 (fun e2 => by have := Hlt.out _ (H4.out.inF.2.2.2.1 _ e2); omega)
          go_simp
          refine hK _ _ (fun _ => ⟨kq.cell 1, e.range ke5⟩) ?_
          clear hK K
          refine Reg.wpTail_list _ _ _ _ (by omega) ?_
          have fq1 : w5.frozen? ⟨q, 1, none⟩ = false := kq.frozen 1
          have dq1 : w5.cell? ⟨q, 1, none⟩ = some (.slice Ac X.coming.length cc) := kq.cell 1
          rw [← insertEv_length e X.coming] at hown
          have Hst := hide (HB.out.comStep hown hm5 (fun g hg => hat g hg))
          rw [insertEv_length] at Hst
          clear hown hm5 hat kq ke5 HinsC c0 c1
          go_wp2_with fail
          refine NoPanic.normal ?_
          go_wp2_with fail
          go_ret
          rw [Hfin.out]
          refine ⟨rfl, ?_⟩
          have hb24 := Hm4.out.below (Nat.le_refl _) (fun _ h => h.elim)
          exact DrvDid.ahead Hb1.out (DrvDid.ahead Hb2.out (DrvDid.ahead hb24 (DrvDid.ahead HhB.out Hst.out)))
        · have hj1 : j - 1 < X.coming.length := by have := Hj.out; omega
          have hev := Evs.of_own (G := fun _ => True) H3.out.com (fun _ _ => trivial)
          obtain ⟨g, off, hA, -, -, hr0⟩ := hev.at_ hj1
          have hoff : off = 0 := by
            rcases H3.out.com.2 with ⟨h', h0⟩ | ⟨g', cap, cur, h', _⟩
            · omega
            · simp only [Value.slice.injEq] at h'
              rw [hA] at h'
              simp only [Option.some.injEq, Addr.mk.injEq] at h'
              exact h'.1.2.1
          subst hoff
          rw [hA] at c1
          obtain ⟨r0, -⟩ := EvV.four hr0
          rw [Nat.zero_add] at r0
          have ew : IntKind.i64.wrap ((j : Int) - 1) = ((j - 1 : Nat) : Int) := by rw [IntWalk.i64_in _ (by have := Hj.out; have := Hl.out; omega)]; omega
          have g0 : decide ((0 : Int) < (j : Int)) = true := decide_eq_true (by omega)
          have g1 : decide (0 < j) = true := decide_eq_true (by omega)
          have gi : decide (j - 1 < X.coming.length) = true := decide_eq_true hj1
          have HA := hide hA
          clear hev hr0 hA
          by_cases hgt : e.at_ < X.coming[j - 1].at_
          · have g2 : decide (e.at_ < X.coming[j - 1].at_) = true := decide_eq_true hgt
            have Hgt := hide hgt
            clear hgt
            go_upto_region 6 with (fail)
            go_quiet (fail)
            have Hm4 := hide (Hm.out.drewN nq)
            clear Hm H3 K3 c0 c1 e0 r0
            generalize wr.drewN nq = w4 at Hm4 ⊢
            go_wp2_with fail
            go_roundw
            case rel =>
              refine ⟨j - 1, rfl, by have := Hj.out; omega, fun k hk hjk => ?_, Hm4.out⟩
              by_cases hkj : k = j - 1
              · subst hkj; exact Hgt.out
              · exact Hjs.out k hk (by omega)
            case measure => simp [intOf]; omega
          · have g2 : decide (e.at_ < X.coming[j - 1].at_) = false := decide_eq_false hgt
            have Hle : Hid (∀ (h : 0 < j) (h2 : j - 1 < X.coming.length), X.coming[j - 1].at_ ≤ e.at_) := hide (fun _ _ => by omega)
            clear hgt
            go_upto_region 6 with (fail)
            go_quiet (fail)
            have Hm4 := hide (Hm.out.drewN nq)
            have H4 := hide (H3.out.drewN nq)
            have K4 : Hid (Blk (wr.drewN nq) w.heap.size 66 e.cells.toArray) := hide K3.out
            clear Hm H3 K3 c0 c1 e0 r0
            generalize wr.drewN nq = w4 at Hm4 H4 K4 ⊢
            have Hins := hide (insertEv_at e X.coming j Hj.out Hs.out Hjs.out Hle.out)
            obtain ⟨c0, c1, -, -, fq1, -⟩ := H4.out.cells
            have hB : Below w4.heap.size w4 (w4.drew.alloc (.cells e.cells.toArray 66)) := (Below.refl _ w4).drew.alloc (Nat.le_refl _) _
            have HB := hide (H4.out.below hB)
            have hvb : Blk (w4.drew.alloc (.cells e.cells.toArray 66)) w4.heap.size 66 e.cells.toArray := Blk.new w4.drew 66 e.cells.toArray
            have hins := insert_any j Hj.out HB.out.com hvb (fun h => by have := H4.out.lt _ (H4.out.inF.2.2.2.1 _ h); omega) (by have := Hl.out; omega)
            rw [← Hins.out] at hins
            have HinsC := hide hins
            have Her := hide (e.range K4.out)
            have hSB : Hid ((w4.drew.alloc (.cells e.cells.toArray 66)).cell? ⟨q, 1, none⟩ = some (.slice Ac X.coming.length cc) ∧ (w4.drew.alloc (.cells e.cells.toArray 66)).rangeAt w.heap.size 0 e.cells) := hide ⟨HB.out.cells.2.1, ItS8.range_below hB K4.out.lt Her.out⟩
            have KB := hide (show Blk (w4.drew.alloc (.cells e.cells.toArray 66)) w.heap.size 66 e.cells.toArray from (hB.block _ K4.out.lt).trans K4.out)
            have HhB := hide hB
            clear hins hvb hB fq1
            go_upto_region 8 with (fail)
            refine Reg.wp_region_reads (fun w' => w'.cell? ⟨q, 1, none⟩ = some (.slice Ac X.coming.length cc) ∧ w'.rangeAt w.heap.size 0 e.cells) 7 9 (by decide +kernel) (by decide +kernel) ⟨c1, Her.out⟩ ?_
            simp only [List.take_succ_cons, List.take_zero, List.drop_succ_cons, List.drop_zero]
            iterate 6
              apply Reg.wpReads_step rfl
              · intro w' hS
                obtain ⟨x0, x1⟩ := hS
                go_simp
                first | done | rfl
              intro K hK
              go_simp
              refine hK _ ?_
              clear hK K
            refine Reg.wpReads_load rfl 66 (.tmp 3) rfl w.heap.size 0 rfl e.cells _ (fun w' h => h.2) Try.underlying66 rfl (Ev.size e) (fun K hK => ?_)
            go_simp
            refine hK _ ?_
            clear hK K
            refine Reg.wpReads_nil ?_
            refine Reg.wpTail_step rfl (fun K hK => ?_)
            refine Ev.wp_build1 e (.tmp 46) rfl rfl ?_
            go_simp
            refine hK _ _ (fun _ => hSB.out) ?_
            clear hK K
            refine Reg.wpTail_step rfl (fun K hK => ?_)
            go_simp
            refine HinsC.out.mono ?_
            rintro en w5 ⟨A5, c5, rfl, hown, hm5, hat⟩
            have kq : Blk w5 q 121 _ := HB.out.blk.mods hm5 (fun e => (HB.out.noC q e).1 rfl)
            have ke5 : Blk w5 w.heap.size 66 e.cells.toArray := KB.out.mods hm5 (fun e2 => by have := Hlt.out _ (H4.out.inF.2.2.2.1 _ e2); omega)
            go_simp
            refine hK _ _ (fun _ => ⟨kq.cell 1, e.range ke5⟩) ?_
            clear hK K
            refine Reg.wpTail_list _ _ _ _ (by omega) ?_
            have fq1 : w5.frozen? ⟨q, 1, none⟩ = false := kq.frozen 1
            have dq1 : w5.cell? ⟨q, 1, none⟩ = some (.slice Ac X.coming.length cc) := kq.cell 1
            rw [← insertEv_length e X.coming] at hown
            have Hst := hide (HB.out.comStep hown hm5 (fun g hg => hat g hg))
            rw [insertEv_length] at Hst
            clear hown hm5 hat kq ke5 HinsC c0 c1
            go_wp2_with fail
            refine NoPanic.normal ?_
            go_wp2_with fail
            go_ret
            rw [Hfin.out]
            refine ⟨rfl, ?_⟩
            have hb24 := Hm4.out.below (Nat.le_refl _) (fun _ h => h.elim)
            exact DrvDid.ahead Hb1.out (DrvDid.ahead Hb2.out (DrvDid.ahead hb24 (DrvDid.ahead HhB.out Hst.out)))
  · have hr2 : e.right = false := by simpa using hr
    rw [hr2] at Hrt
    have Hfin := hide (show X.plan e = (X, 10) by rw [Dr.plan, if_pos hr2])
    clear hr hr2
    go_enter Try.func41, Try.ntmps41
    go_wp2_with ((with_reducible refine wpList_load_mid ?g1 66 (.tmp 3) ?o1 w.heap.size (0) ?x1 e.cells ?d1 ?r1 ?u1 ?f1 ?i1 ?_); (case g1 => exact rfl); (case o1 => exact rfl); (case x1 => exact rfl); (case r1 => exact e.range Ke.out); (case u1 => exact Try.underlying66); (case f1 => exact rfl); (case i1 => exact Ev.size _))
    refine Hrt.out.mono ?_
    rintro en w2 ⟨rfl, hb2⟩
    have H2 := hide (H1.out.below hb2)
    have Hb2 := hide hb2
    clear hb2 Hrt
    go_wp2_with fail
    go_ret
    rw [Hfin.out]
    exact ⟨rfl, DrvDid.ahead Hb1.out (DrvDid.ahead Hb2.out H2.out.same)⟩
end
end DV
end Go.Proofs.Ytdinbhanekpjoaa
