/-
  A region that draws its order: reads in front, then operations in one forced order, of which some may come between the reads. The reads are taken first, under a condition S on the world that holds as long as one of them may still come. Nothing here speaks of the program.
-/
import Derived.StillTail
import Derived.OrdersHeld
import Derived.Deep.MidRow
import Derived.Deep.RegionHeld3
namespace Go.Proofs.Ytdinbhanekpjoaa.Reg
open Go

section
variable {P : Program} {ops : Array Oper} {Q : Exit → Act → World → Prop} {md : Region.Mode} {S : World → Prop} {m : Nat}

/-- Whatever order is picked from here on, and S holds behind every operation before number m. -/
def wpAnyR (P : Program) (md : Region.Mode) (ops : Array Oper) (Q : Exit → Act → World → Prop) (S : World → Prop) (m : Nat) : Nat → Array Bool → Act → World → Prop
  | 0, listed, a, w => Region.ready md ops listed = [] ∧ Q .normal a w
  | fuel + 1, listed, a, w =>
    (Region.ready md ops listed = [] → Q .normal a w) ∧
    ∀ i ∈ Region.ready md ops listed, wpOp P ops Q i (fun a' w' => (i < m → S w') ∧ wpAnyR P md ops Q S m fuel (listed.setIfInBounds i true) a' w') a w

theorem wpAny_of_R : ∀ (fuel : Nat) (listed : Array Bool) (a : Act) (w : World), wpAnyR P md ops Q S m fuel listed a w → wpAny P md ops Q fuel listed a w
  | 0, _, _, _, h => h
  | fuel + 1, _, _, _, h => ⟨h.1, fun i hi => wpOp_mono (fun a' w' h' => wpAny_of_R fuel _ a' w' h'.2) (h.2 i hi)⟩

theorem wpAnyR_first {i : Nat} {oi : Oper} {v : Value} (hi : ops[i]? = some oi) (hsel : ∀ (j : Nat) (o : Oper) cs b, ops[j]? = some o → o.op ≠ .select cs b)
    (hs : Region.sinkB md ops m = true) (hc : Region.chainB md ops m = true) (hm : m < ops.size) (him : i < m)
    (hQ : ∀ c a d v w, Q (.panic c) (a.put d v) w → Q (.panic c) a w) :
    ∀ (fuel : Nat) (listed : Array Bool) (a : Act) (w : World), HeadInv md ops m listed →
      (∀ j oj, ops[j]? = some oj → j ≠ i → listed.getD j true = false → (∀ e ∈ oj.after, Region.binds md e = true → e.on ≠ i) → oi.apart ops oj = true) →
      i ∈ Region.ready md ops listed → YieldsIf P ops S oi v a → S w →
      wpAnyR P md ops Q S m fuel (listed.setIfInBounds i true) (a.put oi.dst v) w → wpAnyR P md ops Q S m (fuel + 1) listed a w := by
  intro fuel
  induction fuel with
  | zero =>
    intro listed a w inv _ hr hy hS H
    refine ⟨fun h => (by rw [h] at hr; cases hr), fun j hj => ?_⟩
    by_cases hji : j = i
    · subst hji; exact hy.wpOp hi hS ⟨fun _ => hS, H⟩
    · have := ready_mono hj hji
      rw [H.1] at this
      cases this
  | succ fuel ih =>
    intro listed a w inv hfree hr hy hS H
    have hun := (mem_ready.1 hr).1
    refine ⟨fun h => (by rw [h] at hr; cases hr), fun j hj => ?_⟩
    have hjm : j < m := by
      rcases Nat.lt_or_ge j m with h | h
      · exact h
      · exact absurd hj (tail_waits hs hc hm inv _ i rfl him hun j h)
    by_cases hji : j = i
    · subst hji; exact hy.wpOp hi hS ⟨fun _ => hS, H⟩
    · have h1 := H.2 j (ready_mono hj hji)
      obtain ⟨hjun, oj, hoj, hall⟩ := mem_ready.1 hj
      have hnot : ∀ e ∈ oj.after, Region.binds md e = true → e.on ≠ i := fun e he hb heq => by
        have h1 := hall e he hb
        rw [heq, getD_both hun] at h1
        cases h1
      have h2 := wpOp_putIf hoj (hfree j oj hoj hji hjun hnot) (fun cs b => hsel i oi cs b hi) (fun cs b => hsel j oj cs b hoj) (fun c a w h => hQ c a _ _ w h) hy h1
      have hfree' : ∀ k ok, ops[k]? = some ok → k ≠ i → (listed.setIfInBounds j true).getD k true = false →
          (∀ e ∈ ok.after, Region.binds md e = true → e.on ≠ i) → oi.apart ops ok = true := fun k ok hk hki hun hno => by
        refine hfree k ok hk hki ?_ hno
        by_cases hjk : j = k
        · subst hjk; exact hjun
        · rw [getD_set_ne true hjk] at hun; exact hun
      refine wpOp_mono (fun a' w' h3 => ⟨h3.2.1, ih (listed.setIfInBounds j true) a' w' (inv.set hj hjm) hfree' (ready_mono hr (Ne.symm hji)) h3.1 (h3.2.1 hjm) ?_⟩) h2
      rw [Array.setIfInBounds_comm _ _ hji]
      exact h3.2.2

/-- The reads, in the order of the text: each yields its value in every world that meets S. -/
def wpReads (P : Program) (ops : Array Oper) (S : World → Prop) (Lq : Act → Prop) : List Oper → Act → Prop
  | [], a => Lq a
  | o :: rest, a => ∃ v, YieldsIf P ops S o v a ∧ wpReads P ops S Lq rest (a.put o.dst v)

/-- The rest, in its order; before number m S is shown anew. -/
def wpTail (P : Program) (ops : Array Oper) (Q : Exit → Act → World → Prop) (S : World → Prop) (m : Nat) : List Oper → Nat → Act → World → Prop
  | [], _, a, w => Q .normal a w
  | o :: rest, k, a, w => if Region.wanted o (yielded ops a.tmps) then o.wp P a w (fun a' w' => (k < m → S w') ∧ wpTail P ops Q S m rest (k + 1) a' w') Q ∨ (o.asks P a w ∧ LetsOut Q)
      else ((k < m → S w) ∧ wpTail P ops Q S m rest (k + 1) (a.put o.dst undef) w)

theorem wpAnyR_seq : ∀ (l : List Oper) (k : Nat) (listed : Array Bool) (a : Act) (w : World), (∀ j, l[j]? = ops[k + j]?) →
    Region.seqB md ops l.length k listed = true → wpTail P ops Q S m l k a w → wpAnyR P md ops Q S m l.length listed a w
  | [], _, _, _, _, _, hB, h => ⟨by simpa [Region.seqB] using hB, h⟩
  | o :: l, k, listed, a, w, hl, hB, h => by
    have h0 : ops[k]? = some o := by simpa using (hl 0).symm
    simp only [List.length_cons, Region.seqB, Bool.and_eq_true, decide_eq_true_eq] at hB
    refine ⟨fun h1 => (by rw [hB.1] at h1; cases h1), fun i hi => ?_⟩
    rw [hB.1] at hi
    have hik : i = k := by simpa using hi
    subst hik
    have hw : wpOp P ops Q i (fun a' w' => (i < m → S w') ∧ wpTail P ops Q S m l (i + 1) a' w') a w := by unfold wpOp; simp only [h0]; exact h
    exact wpOp_mono (fun a' w' h' => ⟨h'.1, wpAnyR_seq l (i + 1) _ a' w' (fun j => by have := hl (j + 1); simpa [Nat.add_assoc, Nat.add_comm 1 j] using this) hB.2 h'.2⟩) hw

theorem wpAnyR_lex {n : Nat} (hsel : Region.noSelect ops = true) (hs : Region.sinkB md ops m = true) (hc : Region.chainB md ops m = true) (hm : m < ops.size) (hnm : n ≤ m)
    (hQ : ∀ c a d v w, Q (.panic c) (a.put d v) w → Q (.panic c) a w) {w : World} (hS : S w) {T : Act → Prop} {g : Nat}
    (hT : ∀ listed a, Region.seqB md ops g n listed = true → T a → wpAnyR P md ops Q S m g listed a w) :
    ∀ (l : List Oper) (k : Nat) (listed : Array Bool) (a : Act), (∀ j, j < l.length → l[j]? = ops[k + j]?) → k + l.length = n → HeadInv md ops m listed →
    Region.lexHead md ops g l.length k listed = true → wpReads P ops S T l a → wpAnyR P md ops Q S m (l.length + g) listed a w
  | [], k, listed, a, _, hk, _, hB, h => by
    have : k = n := by simpa using hk
    subst this
    rw [List.length_nil, Nat.zero_add]
    exact hT listed a (by simpa [Region.lexHead] using hB) h
  | o :: l, k, listed, a, hl, hk, inv, hB, h => by
    have h0 : ops[k]? = some o := by simpa using (hl 0 (by simp)).symm
    simp only [List.length_cons, Region.lexHead, Bool.and_eq_true] at hB
    obtain ⟨⟨hr, hf⟩, hB'⟩ := hB
    have hkn : k < n := by simp only [List.length_cons] at hk; omega
    have hr' : k ∈ Region.ready md ops listed := by simpa using hr
    obtain ⟨v, hy, hK⟩ := h
    have := wpAnyR_first h0 (Region.noSelect_spec hsel) hs hc hm (by omega) hQ (l.length + g) listed a w inv (Region.free_spec h0 hf) hr' hy hS
      (wpAnyR_lex hsel hs hc hm hnm hQ hS hT l (k + 1) _ _ (fun j hj => by have := hl (j + 1) (by simp; omega); simpa [Nat.add_assoc, Nat.add_comm 1 j] using this) (by simp only [List.length_cons] at hk; omega) (inv.set hr' (by omega)) hB' hK)
    simpa [Nat.add_right_comm] using this

/-- What is asked of the region's own edges. -/
def readsB (ops : Array Oper) (n m : Nat) : Bool :=
  Region.noSelect ops && decide (n ≤ m) && decide (m < ops.size) && Region.sinkB .any ops m && Region.chainB .any ops m && Region.lexHead .any ops (ops.size - n) n 0 (Array.replicate ops.size false)

theorem wp_region_reads0 {id : Nat} {a : Act} {w : World} {l : List Oper} (S : World → Prop) (n m : Nat) (hf : P.follows .mixedOrders = true) (hB : readsB l.toArray n m = true)
    (hQ : ∀ c a d v w, Q (.panic c) (a.put d v) w → Q (.panic c) a w) (hS : S { w with drawn := w.drawn + 1 })
    (h : wpReads P l.toArray S (fun a' => wpTail P l.toArray Q S m (l.drop n) n a' { w with drawn := w.drawn + 1 }) (l.take n) a) : (Code.region id l.toArray true).wp P Q a w := by
  simp only [readsB, Bool.and_eq_true, decide_eq_true_eq] at hB
  obtain ⟨⟨⟨⟨⟨hsel, hnm⟩, hm⟩, hs⟩, hc⟩, hlex⟩ := hB
  have hml : m < l.length := by simpa using hm
  have htl : (l.take n).length = n := by simp; omega
  have hdl : (l.drop n).length = l.toArray.size - n := by simp
  have inv0 : HeadInv .any l.toArray m (Array.replicate l.toArray.size false) :=
    ⟨by simp, fun j oj _ hl => (by rw [getD_replicate_false] at hl; cases hl), fun t _ ht => getD_in (by simpa using ht) (getD_replicate_false _ _)⟩
  refine wp_region_any hf (wpAny_of_R (S := S) (m := m) _ _ _ _ ?_)
  have H := wpAnyR_lex (md := .any) (n := n) (g := l.toArray.size - n) hsel hs hc hm hnm hQ hS (T := fun a' => wpTail P l.toArray Q S m (l.drop n) n a' { w with drawn := w.drawn + 1 })
    (fun listed a hb ht => by rw [← hdl] at hb ⊢; exact wpAnyR_seq (l.drop n) n listed a _ (fun j => by simp [List.getElem?_drop]) hb ht)
    (l.take n) 0 (Array.replicate l.toArray.size false) a (fun j hj => by
      have hj' : j < n := by rw [htl] at hj; exact hj
      simp [hj']) (by simpa using htl) inv0 (by rw [htl]; exact hlex) h
  have e : (l.take n).length + (l.toArray.size - n) = l.toArray.size := by rw [htl]; simp; omega
  rwa [e] at H

theorem wp_region_reads {id : Nat} {a : Act} {w : World} {l : List Oper} (S : World → Prop) (n m : Nat) (hf : P.follows .mixedOrders = true) (hB : readsB l.toArray n m = true) (hS : S w.drew)
    (h : wpReads P l.toArray S (fun a' => wpTail P l.toArray (NoPanic Q) S m (l.drop n) n a' w.drew) (l.take n) a) : (Code.region id l.toArray true).wp P Q a w :=
  wp_region_noPanic (wp_region_reads0 S n m hf hB (fun _ _ _ _ _ h => h) hS h)

/-! ### The steps -/
theorem wpReads_nil {T : Act → Prop} {a : Act} (h : T a) : wpReads P ops S T [] a := h
theorem wpReads_step {T : Act → Prop} {a : Act} {o : Oper} {rest : List Oper} (hg : o.guard = none) {v : Value} (hv : ∀ w, S w → (execOp a.eval o).run P w = .ok (.value v) w) (h : ∀ K : Act → Prop, (∀ a, wpReads P ops S T rest a → K a) → K (a.put o.dst v)) : wpReads P ops S T (o :: rest) a :=
  ⟨v, .inl ⟨by simp [Region.wanted, hg], hv⟩, h _ (fun _ h => h)⟩
theorem wpReads_stepG {T : Act → Prop} {a : Act} {o : Oper} {rest : List Oper} (hw : Region.wanted o (yielded ops a.tmps) = true) {v : Value} (hv : ∀ w, S w → (execOp a.eval o).run P w = .ok (.value v) w) (h : ∀ K : Act → Prop, (∀ a, wpReads P ops S T rest a → K a) → K (a.put o.dst v)) : wpReads P ops S T (o :: rest) a :=
  ⟨v, .inl ⟨hw, hv⟩, h _ (fun _ h => h)⟩
theorem wpReads_load {T : Act → Prop} {a : Act} {o : Oper} {rest : List Oper} (hg : o.guard = none) (ty : TypeId) (x : Operand) (ho : o.op = .load ty x) (b off : Nat) (hx : a.eval x = .pointer (some ⟨b, off, none⟩)) (cs : List Value) (d : TypeDesc)
    (hS : ∀ w, S w → w.rangeAt b off cs) (hu : P.underlying ty = some d) (hd : d.isRow = true) (hi : (P.info? ty).map (·.size) = some cs.length) (h : ∀ K : Act → Prop, (∀ a, wpReads P ops S T rest a → K a) → K (a.put o.dst (.agg cs.toArray))) : wpReads P ops S T (o :: rest) a :=
  wpReads_step hg (fun w hw => by
    simp only [execOp, ho, hx, Sem.run_bind, run_loadAt_mid w b off ty cs d (hS w hw) hu hd hi, Result.andThen_ok, Sem.run_pure]) h
theorem wpTail_step {a : Act} {w : World} {o : Oper} {rest : List Oper} {k : Nat} (hg : o.guard = none) (h : ∀ K : Act → World → Prop, (∀ a' w', (k < m → S w') → wpTail P ops Q S m rest (k + 1) a' w' → K a' w') → o.wp P a w K Q) : wpTail P ops Q S m (o :: rest) k a w := by
  have hw : Region.wanted o (yielded ops a.tmps) = true := by simp [Region.wanted, hg]
  unfold wpTail
  rw [if_pos hw]
  exact .inl (h _ (fun a' w' h1 h2 => ⟨h1, h2⟩))
theorem wpTail_list : ∀ (l : List Oper) (k : Nat) (a : Act) (w : World), m ≤ k → wpList P ops Q l a w → wpTail P ops Q S m l k a w
  | [], _, _, _, _, h => h
  | o :: l, k, a, w, hk, h => by
    unfold wpTail
    unfold wpList at h
    by_cases hw : Region.wanted o (yielded ops a.tmps) = true
    · rw [if_pos hw] at h ⊢
      rcases h with h | h
      · exact .inl (Oper.wp_mono (fun a' w' h' => ⟨fun h0 => by omega, wpTail_list l (k + 1) a' w' (by omega) h'⟩) h)
      · exact .inr h
    · rw [if_neg hw] at h ⊢
      exact ⟨fun h0 => by omega, wpTail_list l (k + 1) _ w (by omega) h⟩
end
end Go.Proofs.Ytdinbhanekpjoaa.Reg
