/-
  The drive's map: keyed by a place (a zone and an offset), its elements a pattern and a number; as a function of the place.
-/
import Derived.Test.YtdinbhanekpjoaaEv8
import Derived.Maps.OwnSet
import Derived.DeepKeys4
namespace Go.Proofs.Ytdinbhanekpjoaa
open Go.RowKit
open Go.Maps (Keyed)
open Go.Deep

theorem laidOut8 : laidOutB Try.prog = true := by kernel_rfl
theorem place_keyed : Keyed Try.prog 126 := Keyed.of_law (deep_law_laid laidOut8 (m := 2) (by omega) (of_decide_eq_true (by kernel_rfl)) (by kernel_rfl) (by kernel_rfl))
/-- A number that an int holds. -/
def fits (z : Int) : Prop := (Lit.int .i64 z).wf = true
theorem fits_of {z : Int} (h1 : -9223372036854775808 ≤ z) (h2 : z ≤ 9223372036854775807) : fits z := by
  have e1 : IntKind.i64.min = -9223372036854775808 := by decide
  have e2 : IntKind.i64.max = 9223372036854775807 := by decide
  simp only [fits, Lit.wf, e1, e2, Bool.and_eq_true, decide_eq_true_eq]
  omega
def plLit (z off : Int) : Lit := .string (keyBytes [.int .i64 z, .int .i64 off])
theorem typesSize : ∃ m, Try.prog.types.size = m + 1 := ⟨Try.prog.types.size - 1, by have : 0 < Try.prog.types.size := of_decide_eq_true (by kernel_rfl); omega⟩
theorem place_uncut : (Try.prog.cutTypes.any (·.2 == 126)) = false := by kernel_rfl
theorem place_unheld : Try.prog.stoodInHeld 126 = false := by kernel_rfl
theorem place_cells : Try.prog.cellsOf 126 = 2 := by kernel_rfl
theorem int_cells : Try.prog.cellsOf 3 = 1 := by kernel_rfl
theorem plKey_gen {P : Program} {k i : TypeId} {f0 f1 : Field} (hk : P.underlying k = some (.struct #[f0, f1])) (hi : P.underlying i = some (.int .i64)) (t0 : f0.type = i) (t1 : f1.type = i) (o0 : f0.offset = 0) (o1 : f1.offset = 1) (n0 : (f0.name != "_") = true) (n1 : (f1.name != "_") = true)
    (hc : (P.cutTypes.any (·.2 == k)) = false) (hh : P.stoodInHeld k = false) (hck : P.cellsOf k = 2) (hci : P.cellsOf i = 1) (hsz : ∃ m, P.types.size = m + 1) {z off : Int} (h1 : (Lit.int .i64 z).wf = true) (h2 : (Lit.int .i64 off).wf = true) :
    keyOf P k (.agg #[.int .i64 z, .int .i64 off]) = some (.string (keyBytes [.int .i64 z, .int .i64 off])) := by
  obtain ⟨m, hm⟩ := hsz
  have hkt : P.keyType k = true := by
    unfold Program.keyType
    rw [hm]
    simp only [Program.keyTypeAt, hk]
    simp [t0, t1, hi, n0, n1, hh]
    simpa using hc
  unfold keyOf
  rw [hk]
  simp only [hkt, Value.formed, hk, hck, hm, Program.keyLits, Value.cells]
  simp [t0, t1, o0, o1, hci, hi, h1, h2, n0, n1]
theorem plKey {z off : Int} (hz : fits z) (ho : fits off) : keyOf Try.prog 126 (.agg #[.int .i64 z, .int .i64 off]) = some (plLit z off) :=
  plKey_gen Try.underlying126 Try.underlying3 rfl rfl rfl rfl (by decide) (by decide) place_uncut place_unheld place_cells int_cells typesSize hz ho
theorem plLit_inj {z off z' off' : Int} (hz : fits z) (ho : fits off) (hz' : fits z') (ho' : fits off') (h : plLit z off = plLit z' off') : z = z' ∧ off = off' := by
  have := place_keyed.inj (plKey hz ho) (h ▸ plKey hz' ho')
  simpa using this

/-- Every element is told as it is. -/
def heldR : Value → Option (DataW Value × List MemPlace) := fun v => some (.held v, [])
abbrev Marks := Int → Int → Sec × Int
def Marks.none : Marks := fun _ _ => (Sec.zero, 0)
def Marks.upd (M : Marks) (z off : Int) (m : Sec × Int) : Marks := fun z' off' => if z' = z ∧ off' = off then m else M z' off'
/-- Forgotten from a place on. -/
def Marks.forget (M : Marks) (size z frm : Int) : Marks := fun z' off' => if z' = z ∧ frm ≤ off' ∧ off' < size then (Sec.zero, 0) else M z' off'
def markV (m : Sec × Int) : Value := .agg (m.1.cs ++ [Value.int .i64 m.2]).toArray
theorem markV_inj {m m' : Sec × Int} (h : markV m = markV m') : m = m' := by
  obtain ⟨a, b⟩ := m
  obtain ⟨a', b'⟩ := m'
  simp only [markV, Value.agg.injEq] at h
  have h := congrArg Array.toList h
  simp only [] at h
  have := List.append_inj' h rfl
  simp only [List.cons.injEq, Value.int.injEq, true_and, and_true] at this
  rw [Sec.ext this.1, this.2]
/-- Block b is a map of at most n entries that has M's marks. -/
def MapIs (w : World) (b n : Nat) (M : Marks) : Prop :=
  ∃ D : DataW Value, w.ownsMap Try.prog 126 heldR b n D ∧ ∀ z off, fits z → fits off → D.atKey (plLit z off) (.held (markV (Sec.zero, 0))) = .held (markV (M z off))
theorem zeroMark (w : World) : (zeroValue 124).run Try.prog w = .ok (markV (Sec.zero, 0)) w := by kernel_rfl

section
variable {w w' : World} {b n : Nat} {M : Marks} {S : Nat → Prop} {z off : Int}
theorem MapIs.made (w : World) : MapIs (w.alloc (.map #[] 0)) w.heap.size 0 Marks.none := ⟨_, World.ownsMap_made w _ _ _, fun _ _ _ _ => rfl⟩
theorem MapIs.lt (h : MapIs w b n M) : b < w.heap.size := by
  obtain ⟨D, h, _⟩ := h
  exact h.lt
theorem MapIs.mods (h : MapIs w b n M) (hm : Mods S w w') (hb : ¬ S b) : MapIs w' b n M := by
  have hl := h.lt
  obtain ⟨D, ⟨es, clock, hh, rest⟩, hD⟩ := h
  exact ⟨D, ⟨es, clock, (hm.block b hl hb).trans hh, rest⟩, hD⟩
theorem MapIs.below (h : MapIs w b n M) (hb : Below w.heap.size w w') : MapIs w' b n M := h.mods (Mods.of_below hb (fun _ => False)) (fun h => h)
theorem MapIs.mono (h : MapIs w b n M) {n' : Nat} (hn : n ≤ n') : MapIs w b n' M := by
  obtain ⟨D, h, hD⟩ := h
  exact ⟨D, h.mono hn, hD⟩
theorem mods_turned (h : w.mapTurned w' b) : Mods (fun k => k = b) w w' := by
  have hg := h.grown
  exact ⟨hg.os, hg.tape, hg.output, hg.size, fun k hk hne => hg.block k hk (fun e => hne (by simpa using e))⟩
theorem MapIs.look (h : MapIs w b n M) (hz : fits z) (ho : fits off) : (Instr.lookup 119 (.map (some b)) (.agg #[.int .i64 z, .int .i64 off]) false).run Try.prog w = .ok (markV (M z off)) w := by
  obtain ⟨D, h, hD⟩ := h
  obtain ⟨v, ps, hrun, hv⟩ := h.lookup place_keyed Try.underlying119 (zeroMark w) (zd := .held (markV (Sec.zero, 0))) (zp := []) rfl (plKey hz ho)
  rw [hD z off hz ho] at hv
  simp only [heldR, Option.some.injEq, Prod.mk.injEq, DataW.held.injEq] at hv
  rw [hrun, hv.1]
theorem MapIs.store (h : MapIs w b n M) (hn : n < maxLen) (hz : fits z) (ho : fits off) (m : Sec × Int) : ∃ w', (Instr.mapUpdate 119 (.map (some b)) (.agg #[.int .i64 z, .int .i64 off]) (markV m)).run Try.prog w = .ok () w' ∧ MapIs w' b (n + 1) (M.upd z off m) ∧ Mods (fun k => k = b) w w' := by
  obtain ⟨D, h, hD⟩ := h
  obtain ⟨w', hrun, h', ht⟩ := h.store place_keyed Try.underlying119 hn (plKey hz ho) (val := markV m) (d := .held (markV m)) (ps := []) rfl
  refine ⟨w', hrun, ⟨_, h', fun z' off' hz' ho' => ?_⟩, mods_turned ht⟩
  by_cases he : z' = z ∧ off' = off
  · obtain ⟨rfl, rfl⟩ := he
    rw [Maps.atKey_put_same h.isMap (place_keyed.key (plKey hz ho))]
    simp [Marks.upd]
  · rw [Maps.atKey_put_other (fun e => he (plLit_inj hz' ho' hz ho e)), hD z' off' hz' ho']
    simp [Marks.upd, he]
theorem MapIs.drop (h : MapIs w b n M) (hz : fits z) (ho : fits off) (ty : TypeId) : ∃ w', (Builtin.delete_ #[119, 126] ty #[.map (some b), .agg #[.int .i64 z, .int .i64 off]]).run Try.prog w = .ok (.tuple #[]) w' ∧ MapIs w' b n (M.upd z off (Sec.zero, 0)) ∧ Mods (fun k => k = b) w w' := by
  obtain ⟨D, h, hD⟩ := h
  obtain ⟨w', hrun, h', ht⟩ := h.drop place_keyed Try.underlying119 (plKey hz ho) ty
  refine ⟨w', hrun, ⟨_, h', fun z' off' hz' ho' => ?_⟩, mods_turned ht⟩
  by_cases he : z' = z ∧ off' = off
  · obtain ⟨rfl, rfl⟩ := he
    rw [Maps.atKey_del_same]
    simp [Marks.upd]
  · rw [Maps.atKey_del_other (fun e => he (plLit_inj hz' ho' hz ho e)), hD z' off' hz' ho']
    simp [Marks.upd, he]
end

/-! ### At the operation -/
section
variable {w : World} {ops : Array Oper} {rest : List Oper} {o : Oper} {a : Act} {Q : Exit → Act → World → Prop} {K : Act → World → Prop} {b n : Nat} {M : Marks} {z off : Int}
theorem exec_lookup_mark (m x : Operand) (hop : o.op = Op.lookup 119 m x false) (hm : a.eval m = .map (some b)) (hown : MapIs w b n M) (hx : a.eval x = .agg #[.int .i64 z, .int .i64 off]) (hz : fits z) (ho : fits off) : (execOp a.eval o).run Try.prog w = .ok (.value (markV (M z off))) w := by
  unfold execOp
  simp only [hop, hm, hx, Sem.run_bind, hown.look hz ho, Result.andThen_ok, Sem.run_pure]
theorem wp_lookup_mark (m x : Operand) (hop : o.op = Op.lookup 119 m x false) (hm : a.eval m = .map (some b)) (hown : MapIs w b n M) (hx : a.eval x = .agg #[.int .i64 z, .int .i64 off]) (hz : fits z) (ho : fits off)
    (h : K (a.put o.dst (markV (M z off))) w) : o.wp Try.prog a w K Q := by
  unfold Oper.wp execOp
  simp only [hop, hm, hx, Sem.run_bind, hown.look hz ho, Result.andThen_ok, Sem.run_pure]
  exact h
theorem wpList_lookup_mark (hg : o.guard = none) (m x : Operand) (hop : o.op = Op.lookup 119 m x false) (hm : a.eval m = .map (some b)) (hown : MapIs w b n M) (hx : a.eval x = .agg #[.int .i64 z, .int .i64 off]) (hz : fits z) (ho : fits off)
    (h : wpList Try.prog ops Q rest (a.put o.dst (markV (M z off))) w) : wpList Try.prog ops Q (o :: rest) a w :=
  wpList_plain hg fun _ hK => wp_lookup_mark m x hop hm hown hx hz ho (hK _ _ h)
theorem wp_update_mark (m x v : Operand) (hop : o.op = Op.mapUpdate 119 m x v) (hm : a.eval m = .map (some b)) (hown : MapIs w b n M) (hn : n < maxLen) (hx : a.eval x = .agg #[.int .i64 z, .int .i64 off]) (mk : Sec × Int) (hv : a.eval v = markV mk) (hz : fits z) (ho : fits off)
    (h : ∀ w', MapIs w' b (n + 1) (M.upd z off mk) → Mods (fun k => k = b) w w' → K (a.put o.dst undef) w') : o.wp Try.prog a w K Q := by
  obtain ⟨w', hrun, h1, h2⟩ := hown.store hn hz ho mk
  unfold Oper.wp execOp
  simp only [hop, hm, hx, hv, Sem.run_bind, hrun, Result.andThen_ok, Sem.run_pure]
  exact h w' h1 h2
theorem wp_delete_mark (m x : Operand) (hop : o.op = Op.call { callee := Callee.builtin Builtin.delete, args := #[m, x], argTypes := #[119, 126] }) (hm : a.eval m = .map (some b)) (hown : MapIs w b n M) (hx : a.eval x = .agg #[.int .i64 z, .int .i64 off]) (hz : fits z) (ho : fits off)
    (h : ∀ w', MapIs w' b n (M.upd z off (Sec.zero, 0)) → Mods (fun k => k = b) w w' → K (a.put o.dst (.tuple #[])) w') : o.wp Try.prog a w K Q := by
  obtain ⟨w', hrun, h1, h2⟩ := hown.drop hz ho o.type
  unfold Oper.wp
  simp [execOp, hop, resolve, invoke, builtin, hm, hx, hrun, Result.andThen]
  exact h w' h1 h2
theorem wpList_delete_mark (hg : o.guard = none) (m x : Operand) (hop : o.op = Op.call { callee := Callee.builtin Builtin.delete, args := #[m, x], argTypes := #[119, 126] }) (hm : a.eval m = .map (some b)) (hown : MapIs w b n M) (hx : a.eval x = .agg #[.int .i64 z, .int .i64 off]) (hz : fits z) (ho : fits off)
    (h : ∀ w', MapIs w' b n (M.upd z off (Sec.zero, 0)) → Mods (fun k => k = b) w w' → wpList Try.prog ops Q rest (a.put o.dst (.tuple #[])) w') : wpList Try.prog ops Q (o :: rest) a w :=
  wpList_plain hg fun _ hK => wp_delete_mark m x hop hm hown hx hz ho (fun w' h1 h2 => hK _ _ (h w' h1 h2))
end
end Go.Proofs.Ytdinbhanekpjoaa
