/-
  A region that draws its order and holds no call of a function of the text's own, inside a fence, in a round too: what is shown of it by the plain walk holds there. Nothing here speaks of the program.
-/
import Derived.Test.YtdinbhanekpjoaaReg
import Derived.CallsIn
import Derived.TacticsIn
namespace Go.Proofs.Ytdinbhanekpjoaa.InRound
open Go

section
variable {P : Program} {F : Fence} {n : Nat}
/-- An operation that calls nothing and defers nothing. -/
def plainB (o : Oper) : Bool :=
  match o.op with
  | .move _ | .assign _ | .pick _ _ _ | .load _ _ | .store _ _ _ | .binOp _ _ _ _ _ | .unOp _ _ _ | .fieldAddr _ _ _ | .indexAddr _ _ _ => true
  | .call { callee := .builtin .len, args := _, argTypes := _ } => true
  | _ => false

theorem run_value {s : Sem Value} {w : World} : (∃ v w', (do pure (Next.value (← s)) : Sem Next).run P w = .ok (.value v) w') ∨ (∃ h w', (do pure (Next.value (← s)) : Sem Next).run P w = .halt h w') := by
  cases hs : s.run P w with
  | ok v w' => exact .inl ⟨v, w', by simp [hs, Result.andThen]⟩
  | halt h w' => exact .inr ⟨h, w', by simp [hs, Result.andThen]⟩
theorem run_unit {s : Sem Unit} {w : World} : (∃ w', (do s; pure Next.skip : Sem Next).run P w = .ok .skip w') ∨ (∃ h w', (do s; pure Next.skip : Sem Next).run P w = .halt h w') := by
  cases hs : s.run P w with
  | ok v w' => exact .inl ⟨w', by simp [hs, Result.andThen]⟩
  | halt h w' => exact .inr ⟨h, w', by simp [hs, Result.andThen]⟩

/-- What a plain operation comes to. -/
theorem exec_plain {o : Oper} (h : plainB o = true) (ρ : Operand → Value) (w : World) :
    (∃ v w', (execOp ρ o).run P w = .ok (.value v) w') ∨ (∃ w', (execOp ρ o).run P w = .ok .skip w') ∨ (∃ h w', (execOp ρ o).run P w = .halt h w') := by
  unfold plainB at h
  have up : ∀ {s : Sem Next}, ((∃ v w', s.run P w = .ok (.value v) w') ∨ (∃ h w', s.run P w = .halt h w')) → (∃ v w', s.run P w = .ok (.value v) w') ∨ (∃ w', s.run P w = .ok .skip w') ∨ (∃ h w', s.run P w = .halt h w') := fun h => h.imp id .inr
  unfold execOp
  split at h <;> rename_i ho <;> simp only [ho]
  · exact .inl ⟨_, _, rfl⟩
  · exact .inl ⟨_, _, rfl⟩
  · exact up (by
      rename_i c a b
      cases hs : (asBool (ρ c)).run P w with
      | ok v w' => exact .inl ⟨if v = true then ρ a else ρ b, w', by simp only [Sem.run_bind, hs, Result.andThen, Sem.run_pure]⟩
      | halt h w' => exact .inr ⟨h, w', by simp only [Sem.run_bind, hs, Result.andThen]⟩)
  · exact up run_value
  · exact .inr (run_unit.imp id id)
  · exact up run_value
  · exact up run_value
  · exact up run_value
  · exact up run_value
  · simp only [resolve, invoke, builtin, Sem.run_bind, Sem.run_pure, Result.andThen_ok]
    generalize Sem.run P (Builtin.len_ _ _ _) w = r
    cases r with
    | ok v w' => exact .inl ⟨v, w', rfl⟩
    | halt h w' => exact .inr (.inr ⟨h, w', rfl⟩)
  · cases h

theorem about_plain {o : Oper} (h : plainB o = true) (w : World) (ρ : Operand → Value) : ∀ f, o.about P w ρ = some f → F.fn f := by
  intro f hf
  unfold plainB at h
  split at h <;> rename_i ho <;> simp [Oper.about, ho, resolve, Target.leads] at hf h
theorem noDefer_plain {o : Oper} (h : plainB o = true) : ∀ c, o.op ≠ .defer c := by
  intro c hc
  unfold plainB at h
  rw [hc] at h
  cases h

/-- Only the way on. -/
def Only (Q : Exit → Act → World → Prop) : Exit → Act → World → Prop
  | .normal, a, w => Q .normal a w
  | _, _, _ => False
theorem Only.normal {Q : Exit → Act → World → Prop} {a : Act} {w : World} (h : Q .normal a w) : Only Q .normal a w := h

theorem wpIn_of_wp {o : Oper} (h : plainB o = true) {a : Act} {w : World} {K K' : Act → World → Prop} {Q : Exit → Act → World → Prop} (hK : ∀ a w, K a w → K' a w) (hw : o.wp P a w K (Only Q)) : o.wpIn F n P a w K' Q := by
  refine ⟨about_plain h w a.eval, ?_⟩
  rw [Oper.semAt_eq _ _ _ (noDefer_plain h)]
  unfold Oper.wp at hw
  rcases exec_plain (P := P) h a.eval w with ⟨v, w', e⟩ | ⟨w', e⟩ | ⟨x, w', e⟩
  · rw [e] at hw ⊢; exact hK _ _ hw
  · rw [e] at hw ⊢; exact hK _ _ hw
  · rw [e] at hw ⊢
    cases x <;> first | exact hw.elim | (simp only [Oper.upon, Only] at hw)

theorem opsIn_of_ops {ops : Array Oper} {Q : Exit → Act → World → Prop} (hp : ops.all plainB = true) : ∀ (l : List Nat) (a : Act) (w : World), wpOps P ops (Only Q) l a w → wpOpsIn F n P ops Q l a w
  | [], _, _, h => h
  | i :: rest, a, w, h => by
    unfold wpOps at h
    unfold wpOpsIn
    cases ho : ops[i]? with
    | none => simp only [ho] at h ⊢; exact opsIn_of_ops hp rest a w h
    | some o =>
      simp only [ho] at h ⊢
      have hpo : plainB o = true := (Array.all_eq_true_iff_forall_mem.1 hp) o (Array.mem_of_getElem? ho)
      by_cases hw : Region.wanted o (yielded ops a.tmps) = true
      · rw [if_pos hw] at h ⊢
        rcases h with h | ⟨_, a', w', h⟩
        · exact wpIn_of_wp hpo (fun a w h => opsIn_of_ops hp rest a w h) h
        · exact h.elim
      · rw [if_neg hw] at h ⊢
        exact ⟨about_plain hpo w a.eval, opsIn_of_ops hp rest _ w h⟩

end
end Go.Proofs.Ytdinbhanekpjoaa.InRound
namespace Go.Proofs.Ytdinbhanekpjoaa.Reg
open Go
section
variable {P : Program} {Q : Exit → Act → World → Prop}
theorem any_of_reads {a : Act} {w : World} {l : List Oper} (S : World → Prop) (n m : Nat) (_hf : P.follows .mixedOrders = true) (hB : readsB l.toArray n m = true)
    (hQ : ∀ c a d v w, Q (.panic c) (a.put d v) w → Q (.panic c) a w) (hS : S { w with drawn := w.drawn + 1 })
    (h : wpReads P l.toArray S (fun a' => wpTail P l.toArray Q S m (l.drop n) n a' { w with drawn := w.drawn + 1 }) (l.take n) a) : wpAny P .any l.toArray Q l.toArray.size (Array.replicate l.toArray.size false) a { w with drawn := w.drawn + 1 } := by
  simp only [readsB, Bool.and_eq_true, decide_eq_true_eq] at hB
  obtain ⟨⟨⟨⟨⟨hsel, hnm⟩, hm⟩, hs⟩, hc⟩, hlex⟩ := hB
  have hml : m < l.length := by simpa using hm
  have htl : (l.take n).length = n := by simp; omega
  have hdl : (l.drop n).length = l.toArray.size - n := by simp
  have inv0 : HeadInv .any l.toArray m (Array.replicate l.toArray.size false) :=
    ⟨by simp, fun j oj _ hl => (by rw [getD_replicate_false] at hl; cases hl), fun t _ ht => getD_in (by simpa using ht) (getD_replicate_false _ _)⟩
  refine (wpAny_of_R (S := S) (m := m) _ _ _ _ ?_)
  have H := wpAnyR_lex (md := .any) (n := n) (g := l.toArray.size - n) hsel hs hc hm hnm hQ hS (T := fun a' => wpTail P l.toArray Q S m (l.drop n) n a' { w with drawn := w.drawn + 1 })
    (fun listed a hb ht => by rw [← hdl] at hb ⊢; exact wpAnyR_seq (l.drop n) n listed a _ (fun j => by simp [List.getElem?_drop]) hb ht)
    (l.take n) 0 (Array.replicate l.toArray.size false) a (fun j hj => by
      have hj' : j < n := by rw [htl] at hj; exact hj
      simp [hj']) (by simpa using htl) inv0 (by rw [htl]; exact hlex) h
  have e : (l.take n).length + (l.toArray.size - n) = l.toArray.size := by rw [htl]; simp; omega
  rwa [e] at H

end
end Go.Proofs.Ytdinbhanekpjoaa.Reg
namespace Go.Proofs.Ytdinbhanekpjoaa.InRound
open Go
section
variable {P : Program} {F : Fence} {n : Nat}
/-- A guarded operation that reads whole cells. -/
theorem wpReads_loadG {ops : Array Oper} {S : World → Prop} {T : Act → Prop} {a : Act} {o : Oper} {rest : List Oper} (hw : Region.wanted o (yielded ops a.tmps) = true) (ty : TypeId) (x : Operand) (ho : o.op = .load ty x) (b off : Nat) (hx : a.eval x = .pointer (some ⟨b, off, none⟩)) (cs : List Value) (d : TypeDesc)
    (hS : ∀ w, S w → w.rangeAt b off cs) (hu : P.underlying ty = some d) (hd : d.isRow = true) (hi : (P.info? ty).map (·.size) = some cs.length) (h : ∀ K : Act → Prop, (∀ a, Reg.wpReads P ops S T rest a → K a) → K (a.put o.dst (.agg cs.toArray))) : Reg.wpReads P ops S T (o :: rest) a :=
  Reg.wpReads_stepG hw (fun w hw => by
    simp only [execOp, ho, hx, Sem.run_bind, run_loadAt_mid w b off ty cs d (hS w hw) hu hd hi, Result.andThen_ok, Sem.run_pure]) h
/-- A guarded operation that is not wanted. -/
theorem wpReads_skip {ops : Array Oper} {S : World → Prop} {T : Act → Prop} {a : Act} {o : Oper} {rest : List Oper} (hw : Region.wanted o (yielded ops a.tmps) = false) (h : ∀ K : Act → Prop, (∀ a, Reg.wpReads P ops S T rest a → K a) → K (a.put o.dst undef)) : Reg.wpReads P ops S T (o :: rest) a :=
  ⟨undef, .inr ⟨hw, rfl⟩, h _ (fun _ h => h)⟩
/-- Reg.wp_region_reads in a fence. -/
theorem wpIn_region_reads {id : Nat} {a : Act} {w : World} {l : List Oper} {Q : Exit → Act → World → Prop} (S : World → Prop) (k m : Nat) (hf : P.follows .mixedOrders = true) (hp : l.toArray.all plainB = true) (hB : Reg.readsB l.toArray k m = true) (hS : S w.drew)
    (h : Reg.wpReads P l.toArray S (fun a' => Reg.wpTail P l.toArray (Only Q) S m (l.drop k) k a' w.drew) (l.take k) a) : (Code.region id l.toArray true).wpIn F n P Q a w := by
  refine wpIn_region_draw fun t => ?_
  simp only [Region.schedule, hf, Bool.true_or, if_true]
  exact opsIn_of_ops hp _ _ _ (wpAny_sound l.toArray.size t _ a _ (Reg.any_of_reads S k m hf hB (fun _ _ _ _ _ h => h.elim) hS h))
end
end Go.Proofs.Ytdinbhanekpjoaa.InRound
