/-
  The document's Due in all; its Plan.
-/
import Derived.Test.YtdinbhanekpjoaaQRef8b
import Derived.Deep.QuietTactic
import Derived.BigQuiet
namespace Go.Proofs.Ytdinbhanekpjoaa
open Go.RowKit
/-- When k rounds of the document's Plan are done. -/
def PlanAt (e : EvV) (L : List EvV) (k : Nat) (out : List EvV) (dn : Bool) : Prop :=
  (dn = false ∧ insertEv e L = out ++ insertEv e (L.drop k) ∧ out.length = k) ∨ (dn = true ∧ insertEv e L = out ++ L.drop k ∧ out.length = k + 1)
theorem PlanAt.start (e : EvV) (L : List EvV) : PlanAt e L 0 [] false := .inl ⟨rfl, by simp, rfl⟩
theorem PlanAt.early {e : EvV} {L out : List EvV} {k : Nat} (h : PlanAt e L k out false) (hk : k < L.length) (hlt : e.at_ < L[k].at_) : PlanAt e L (k + 1) (out ++ [e] ++ [L[k]]) true := by
  rcases h with ⟨_, h1, h2⟩ | ⟨h, _⟩
  · refine .inr ⟨rfl, ?_, by simp [h2]⟩
    rw [h1, List.drop_eq_getElem_cons hk, insertEv, if_pos hlt]
    simp
  · cases h
theorem PlanAt.late {e : EvV} {L out : List EvV} {k : Nat} (h : PlanAt e L k out false) (hk : k < L.length) (hlt : ¬ e.at_ < L[k].at_) : PlanAt e L (k + 1) (out ++ [L[k]]) false := by
  rcases h with ⟨_, h1, h2⟩ | ⟨h, _⟩
  · refine .inl ⟨rfl, ?_, by simp [h2]⟩
    rw [h1, List.drop_eq_getElem_cons hk, insertEv, if_neg hlt]
    simp
  · cases h
theorem PlanAt.on {e : EvV} {L out : List EvV} {k : Nat} (h : PlanAt e L k out true) (hk : k < L.length) : PlanAt e L (k + 1) (out ++ [L[k]]) true := by
  rcases h with ⟨h, _⟩ | ⟨_, h1, h2⟩
  · cases h
  · refine .inr ⟨rfl, ?_, by simp [h2]⟩
    rw [h1, List.drop_eq_getElem_cons hk]
    simp
theorem PlanAt.end_ {e : EvV} {L out : List EvV} (h : PlanAt e L L.length out false) : insertEv e L = out ++ [e] := by
  rcases h with ⟨_, h1, _⟩ | ⟨h, _⟩
  · rw [h1, List.drop_length]; rfl
  · cases h
theorem PlanAt.end2 {e : EvV} {L out : List EvV} (h : PlanAt e L L.length out true) : insertEv e L = out := by
  rcases h with ⟨h, _⟩ | ⟨_, h1, _⟩
  · cases h
  · rw [h1, List.drop_length]; simp
theorem PlanAt.len {e : EvV} {L out : List EvV} {k : Nat} {dn : Bool} (h : PlanAt e L k out dn) : out.length ≤ k + 1 := by
  rcases h with ⟨_, _, h⟩ | ⟨_, _, h⟩ <;> omega
/-- What Plan hands back. -/
def GaveP (w : World) (G : Nat → Prop) (r : Dr × Int) (e : Ending) (w' : World) : Prop :=
  ∃ A c es Ac cc Ah ch, e = .returned (.tuple #[agg8 r.1 A c Ac cc Ah ch, .int .i64 r.2]) ∧ Ref8 w' r.1 A c es Ac cc Ah ch (fun k => G k ∨ w.heap.size ≤ k) ∧ Below w.heap.size w w'
theorem GaveP.plan {w w5 w6 : World} {X : Dr} {A B : Option Addr} {c n cb : Nat} {es : List RZ} {Ac : Option Addr} {cc : Nat} {Ah : Option Addr} {ch : Nat} {G : Nat → Prop} {e : EvV} {out : List EvV} (ho : insertEv e X.coming = out)
    (h5 : Ref8 w5 X A c es Ac cc Ah ch (fun k => G k ∧ k < w.heap.size)) (hown : w5.ownsRow (w.heap.size + 3) 116 68 (.slice B n cb) n (out.flatMap EvV.cells)) (hn : n = out.length) (hm : Mods (fun k => k = w.heap.size + 1 + 1) w5 w6) (hb : Below w.heap.size w w5) :
    GaveP w G ({ X with coming := insertEv e X.coming }, 0) (.returned (.tuple #[.agg #[.slice A X.D.zs.length c, .int .i64 X.D.size, .int .i64 X.D.op, .int .i64 (X.D.n : Int), .bool X.D.down, .slice B n cb, .slice Ah X.happened.length ch], .int .i64 0])) w6 := by
  subst hn
  rw [ho]
  have h6 := (h5.mods hm (fun k hk _ e => by have := hk.2; omega)).mono (G' := fun k => G k ∨ w.heap.size ≤ k) (fun k hk => .inl hk.1)
  have hown6 := own_mods hown hm (fun g hg e => by have := (hown.lt g hg).1; omega)
  refine ⟨A, c, es, B, cb, Ah, ch, rfl, ⟨h6.ref, Evs.of_own (own_base hown6) (fun g hg => .inr ?_), ?_, h6.hap, h6.hapG⟩, hb.trans (hm.below hb.size (fun k e => by omega))⟩
  · have := (hown6.lt g hg).1; omega
  · rcases hown6.2 with ⟨h', h0⟩ | ⟨g, cap, cur, h', _, _, h1, h2, _⟩
    · simp only [Value.slice.injEq] at h'
      show out.length ≤ cb ∧ cb ≤ maxLen
      rw [h'.2.2]
      exact ⟨by omega, by simp [maxLen]⟩
    · simp only [Value.slice.injEq, true_and] at h'
      show out.length ≤ cb ∧ cb ≤ maxLen
      rw [h'.2]
      exact ⟨h1, h2⟩
namespace R8
section
variable {w w' : World} {X : Dr} {A : Option Addr} {c : Nat} {es : List RZ} {Ac : Option Addr} {cc : Nat} {Ah : Option Addr} {ch m : Nat} {G G' S : Nat → Prop}
set_option maxRecDepth 100000 in
set_option maxHeartbeats 1000000 in
/-- Due at a zone that isn't there. -/
theorem due_out (h : Ref8 w X A c es Ac cc Ah ch G) (z : Int) (hz : ¬ (0 ≤ z ∧ z < (X.D.zs.length : Int))) :
    Calls Try.prog 72 #[agg8 X A c Ac cc Ah ch, .int .i64 z, .bool false] w (Gave8 w G X) := by
  unfold agg8
  have hB : Below w.heap.size w ((w.alloc (.cells #[.slice A X.D.zs.length c, .int .i64 X.D.size, .int .i64 X.D.op, .int .i64 (X.D.n : Int), .bool X.D.down, .slice Ac X.coming.length cc, .slice Ah X.happened.length ch] 62)).alloc (.cells #[.slice none 0 0, .int .i64 0, .int .i64 0, .int .i64 0, .bool false, .slice none 0 0, .slice none 0 0] 62)) := ((Below.refl _ w).alloc (Nat.le_refl _) _).alloc (by simp) _
  have k0 := (Blk.new w 62 #[.slice A X.D.zs.length c, .int .i64 X.D.size, .int .i64 X.D.op, .int .i64 (X.D.n : Int), .bool X.D.down, .slice Ac X.coming.length cc, .slice Ah X.happened.length ch]).alloc (.cells #[.slice none 0 0, .int .i64 0, .int .i64 0, .int .i64 0, .bool false, .slice none 0 0, .slice none 0 0] 62)
  have kr := Blk.new (w.alloc (.cells #[.slice A X.D.zs.length c, .int .i64 X.D.size, .int .i64 X.D.op, .int .i64 (X.D.n : Int), .bool X.D.down, .slice Ac X.coming.length cc, .slice Ah X.happened.length ch] 62)) 62 #[.slice none 0 0, .int .i64 0, .int .i64 0, .int .i64 0, .bool false, .slice none 0 0, .slice none 0 0]
  rw [World.size_alloc] at kr
  have HR := hide (h.tight.below hB)
  clear h
  by_cases hz0 : z < 0
  · have d0 : decide (z < 0) = true := decide_eq_true hz0
    clear hz hz0
    go_enter Try.func72, Try.ntmps72
    go_upto_region 1 with (fail)
    generalize (w.alloc _).alloc _ = W2 at hB k0 kr HR ⊢
    have HBW := hide hB
    have KR := hide kr
    obtain ⟨a0, a1, a2, a3, a4, a5, a6, -⟩ := k0.seven
    obtain ⟨r0, r1, r2, r3, r4, r5, r6, s0, s1, s2, s3, s4, s5, s6⟩ := kr.seven
    clear hB k0 kr
    go_wp2_with fail
    refine bodyPost_ret (v := .agg #[.slice A X.D.zs.length c, .int .i64 X.D.size, .int .i64 X.D.op, .int .i64 (X.D.n : Int), .bool X.D.down, .slice Ac X.coming.length cc, .slice Ah X.happened.length ch]) ?_ rfl ?_
    · exact results_cell_row (fn := Try.f72) (p := 6) rfl _ _ (w.heap.size + 1) 62 _ (0, 0) _ rfl (KR.out.put7 _ _ _ _ _ _ _) Try.underlying62 rfl sizeD8
    · have hmR : ∀ v0 v1 v2 v3 v4 v5 v6, Mods (fun k => k = w.heap.size + 1) W2 (put7 W2 (w.heap.size + 1) v0 v1 v2 v3 v4 v5 v6) := fun v0 v1 v2 v3 v4 v5 v6 => Mods.put7 _ _ _ _ _ _ _ _ _ _ rfl
      exact ⟨A, c, _, Ac, cc, Ah, ch, rfl, (HR.out.mods (hmR _ _ _ _ _ _ _) (fun k hk _ e => by have := hk.2; omega)).mono (fun k hk => .inl hk.1), HBW.out.trans ((hmR _ _ _ _ _ _ _).below HBW.out.size (fun k e => by omega))⟩
  · have d0 : decide (z < 0) = false := decide_eq_false hz0
    have d1 : decide ((X.D.zs.length : Int) ≤ z) = true := decide_eq_true (by omega)
    clear hz hz0
    go_enter Try.func72, Try.ntmps72
    go_upto_region 1 with (fail)
    generalize (w.alloc _).alloc _ = W2 at hB k0 kr HR ⊢
    have HBW := hide hB
    have KR := hide kr
    obtain ⟨a0, a1, a2, a3, a4, a5, a6, -⟩ := k0.seven
    obtain ⟨r0, r1, r2, r3, r4, r5, r6, s0, s1, s2, s3, s4, s5, s6⟩ := kr.seven
    clear hB k0 kr
    go_wp2_with fail
    refine bodyPost_ret (v := .agg #[.slice A X.D.zs.length c, .int .i64 X.D.size, .int .i64 X.D.op, .int .i64 (X.D.n : Int), .bool X.D.down, .slice Ac X.coming.length cc, .slice Ah X.happened.length ch]) ?_ rfl ?_
    · exact results_cell_row (fn := Try.f72) (p := 6) rfl _ _ (w.heap.size + 1) 62 _ (0, 0) _ rfl (KR.out.put7 _ _ _ _ _ _ _) Try.underlying62 rfl sizeD8
    · have hmR : ∀ v0 v1 v2 v3 v4 v5 v6, Mods (fun k => k = w.heap.size + 1) W2 (put7 W2 (w.heap.size + 1) v0 v1 v2 v3 v4 v5 v6) := fun v0 v1 v2 v3 v4 v5 v6 => Mods.put7 _ _ _ _ _ _ _ _ _ _ rfl
      exact ⟨A, c, _, Ac, cc, Ah, ch, rfl, (HR.out.mods (hmR _ _ _ _ _ _ _) (fun k hk _ e => by have := hk.2; omega)).mono (fun k hk => .inl hk.1), HBW.out.trans ((hmR _ _ _ _ _ _ _).below HBW.out.size (fun k e => by omega))⟩
/-- The document's Due. -/
theorem due_any (h : Ref8 w X A c es Ac cc Ah ch G) (hb : X.Bd) (hl : X.D.zs.length < 65536) (z : Int) (fl : Bool) (Y : Dr) (hY : Y = if fl = true then X.due else X.begin_ z) :
    Calls Try.prog 72 #[agg8 X A c Ac cc Ah ch, .int .i64 z, .bool fl] w (Gave8 w G Y) := by
  cases fl with
  | true => exact due_in h hb hl z true (.inl rfl) Y (by simpa using hY)
  | false =>
    by_cases hz : 0 ≤ z ∧ z < (X.D.zs.length : Int)
    · exact due_in h hb hl z false (.inr hz) Y (by simpa [Dr.begin_, hz] using hY)
    · have : Y = X := by rw [hY, if_neg (by simp), Dr.begin_, if_neg hz]
      subst this
      exact due_out h z hz
set_option maxRecDepth 100000 in
set_option maxHeartbeats 4000000 in
/-- The document's Plan. -/
theorem plan_any (h : Ref8 w X A c es Ac cc Ah ch G) (hl : X.coming.length < 65000) (e : EvV) :
    Calls Try.prog 78 #[agg8 X A c Ac cc Ah ch, e.agg] w (GaveP w G (X.plan e)) := by
  unfold EvV.agg agg8
  have hB : Below w.heap.size w (((w.alloc (.cells #[.slice A X.D.zs.length c, .int .i64 X.D.size, .int .i64 X.D.op, .int .i64 (X.D.n : Int), .bool X.D.down, .slice Ac X.coming.length cc, .slice Ah X.happened.length ch] 62)).alloc (.cells e.cells.toArray 116)).alloc (.cells #[.slice none 0 0, .int .i64 0, .int .i64 0, .int .i64 0, .bool false, .slice none 0 0, .slice none 0 0] 62)) := (((Below.refl _ w).alloc (Nat.le_refl _) _).alloc (by simp) _).alloc (by simp; omega) _
  have k0 := ((Blk.new w 62 #[.slice A X.D.zs.length c, .int .i64 X.D.size, .int .i64 X.D.op, .int .i64 (X.D.n : Int), .bool X.D.down, .slice Ac X.coming.length cc, .slice Ah X.happened.length ch]).alloc (.cells e.cells.toArray 116)).alloc (.cells #[.slice none 0 0, .int .i64 0, .int .i64 0, .int .i64 0, .bool false, .slice none 0 0, .slice none 0 0] 62)
  have ke := (Blk.new (w.alloc (.cells #[.slice A X.D.zs.length c, .int .i64 X.D.size, .int .i64 X.D.op, .int .i64 (X.D.n : Int), .bool X.D.down, .slice Ac X.coming.length cc, .slice Ah X.happened.length ch] 62)) 116 e.cells.toArray).alloc (.cells #[.slice none 0 0, .int .i64 0, .int .i64 0, .int .i64 0, .bool false, .slice none 0 0, .slice none 0 0] 62)
  have kr := Blk.new ((w.alloc (.cells #[.slice A X.D.zs.length c, .int .i64 X.D.size, .int .i64 X.D.op, .int .i64 (X.D.n : Int), .bool X.D.down, .slice Ac X.coming.length cc, .slice Ah X.happened.length ch] 62)).alloc (.cells e.cells.toArray 116)) 62 #[.slice none 0 0, .int .i64 0, .int .i64 0, .int .i64 0, .bool false, .slice none 0 0, .slice none 0 0]
  rw [World.size_alloc] at ke
  rw [World.size_alloc, World.size_alloc] at kr
  have hsz : (((w.alloc (.cells #[.slice A X.D.zs.length c, .int .i64 X.D.size, .int .i64 X.D.op, .int .i64 (X.D.n : Int), .bool X.D.down, .slice Ac X.coming.length cc, .slice Ah X.happened.length ch] 62)).alloc (.cells e.cells.toArray 116)).alloc (.cells #[.slice none 0 0, .int .i64 0, .int .i64 0, .int .i64 0, .bool false, .slice none 0 0, .slice none 0 0] 62)).heap.size = w.heap.size + 3 := by rw [World.size_alloc, World.size_alloc, World.size_alloc]
  have h3 := h.tight.below hB
  have Hl := hide hl
  clear h hl
  by_cases ha : e.at_ < 0
  · have Hfin := hide (show X.plan e = (X, 10) by rw [Dr.plan, if_pos (by simp [EvV.right]; omega)])
    have d0 : decide (e.at_ < 0) = true := decide_eq_true (by omega)
    clear ha
    go_enter Try.func78, Try.ntmps78
    go_upto_region 1 with (fail)
    generalize ((w.alloc _).alloc _).alloc _ = W3 at hB k0 ke kr hsz h3 ⊢
    have K0 := hide k0
    have KE := hide ke
    have KR := hide kr
    have H3 := hide h3
    have HB := hide hB
    have Hsz := hide hsz
    obtain ⟨a0, a1, a2, a3, a4, a5, a6, -⟩ := k0.seven
    obtain ⟨e0, e1, -⟩ := EvV.blk4 ke
    clear k0 ke kr h3 hB hsz
    obtain ⟨r0, r1, r2, r3, r4, r5, r6, s0, s1, s2, s3, s4, s5, s6⟩ := KR.out.seven
    go_wp2_with fail
    refine bodyPost_ret (v := .tuple #[.agg #[.slice A X.D.zs.length c, .int .i64 X.D.size, .int .i64 X.D.op, .int .i64 (X.D.n : Int), .bool X.D.down, .slice Ac X.coming.length cc, .slice Ah X.happened.length ch], .int .i64 10]) ?_ rfl ?_
    · exact R7.results_agg2 (cs := #[.slice A X.D.zs.length c, .int .i64 X.D.size, .int .i64 X.D.op, .int .i64 (X.D.n : Int), .bool X.D.down, .slice Ac X.coming.length cc, .slice Ah X.happened.length ch]) (fn := Try.f78) (p := 4) (u := 5) (g := w.heap.size + 1 + 1) (t := 62) rfl Try.underlying62 rfl sizeD8 _ _ rfl rfl (KR.out.put7 _ _ _ _ _ _ _)
    · have hmR : ∀ v0 v1 v2 v3 v4 v5 v6, Mods (fun k => k = w.heap.size + 1 + 1) W3 (put7 W3 (w.heap.size + 1 + 1) v0 v1 v2 v3 v4 v5 v6) := fun v0 v1 v2 v3 v4 v5 v6 => Mods.put7 _ _ _ _ _ _ _ _ _ _ rfl
      rw [Hfin.out]
      exact ⟨A, c, _, Ac, cc, Ah, ch, rfl, (H3.out.mods (hmR _ _ _ _ _ _ _) (fun k hk _ e => by have := hk.2; omega)).mono (fun k hk => .inl hk.1), HB.out.trans ((hmR _ _ _ _ _ _ _).below HB.out.size (fun k e => by omega))⟩
  by_cases hk1 : e.kind < 1
  · have Hfin := hide (show X.plan e = (X, 10) by rw [Dr.plan, if_pos (by simp [EvV.right]; omega)])
    have d0 : decide (e.at_ < 0) = false := decide_eq_false (by omega)
    have d1 : decide (e.kind < 1) = true := decide_eq_true (by omega)
    clear ha hk1
    go_enter Try.func78, Try.ntmps78
    go_upto_region 1 with (fail)
    generalize ((w.alloc _).alloc _).alloc _ = W3 at hB k0 ke kr hsz h3 ⊢
    have K0 := hide k0
    have KE := hide ke
    have KR := hide kr
    have H3 := hide h3
    have HB := hide hB
    have Hsz := hide hsz
    obtain ⟨a0, a1, a2, a3, a4, a5, a6, -⟩ := k0.seven
    obtain ⟨e0, e1, -⟩ := EvV.blk4 ke
    clear k0 ke kr h3 hB hsz
    obtain ⟨r0, r1, r2, r3, r4, r5, r6, s0, s1, s2, s3, s4, s5, s6⟩ := KR.out.seven
    go_wp2_with fail
    refine bodyPost_ret (v := .tuple #[.agg #[.slice A X.D.zs.length c, .int .i64 X.D.size, .int .i64 X.D.op, .int .i64 (X.D.n : Int), .bool X.D.down, .slice Ac X.coming.length cc, .slice Ah X.happened.length ch], .int .i64 10]) ?_ rfl ?_
    · exact R7.results_agg2 (cs := #[.slice A X.D.zs.length c, .int .i64 X.D.size, .int .i64 X.D.op, .int .i64 (X.D.n : Int), .bool X.D.down, .slice Ac X.coming.length cc, .slice Ah X.happened.length ch]) (fn := Try.f78) (p := 4) (u := 5) (g := w.heap.size + 1 + 1) (t := 62) rfl Try.underlying62 rfl sizeD8 _ _ rfl rfl (KR.out.put7 _ _ _ _ _ _ _)
    · have hmR : ∀ v0 v1 v2 v3 v4 v5 v6, Mods (fun k => k = w.heap.size + 1 + 1) W3 (put7 W3 (w.heap.size + 1 + 1) v0 v1 v2 v3 v4 v5 v6) := fun v0 v1 v2 v3 v4 v5 v6 => Mods.put7 _ _ _ _ _ _ _ _ _ _ rfl
      rw [Hfin.out]
      exact ⟨A, c, _, Ac, cc, Ah, ch, rfl, (H3.out.mods (hmR _ _ _ _ _ _ _) (fun k hk _ e => by have := hk.2; omega)).mono (fun k hk => .inl hk.1), HB.out.trans ((hmR _ _ _ _ _ _ _).below HB.out.size (fun k e => by omega))⟩
  by_cases hk2 : 4 < e.kind
  · have Hfin := hide (show X.plan e = (X, 10) by rw [Dr.plan, if_pos (by simp [EvV.right]; omega)])
    have d0 : decide (e.at_ < 0) = false := decide_eq_false (by omega)
    have d1 : decide (e.kind < 1) = false := decide_eq_false (by omega)
    have d2 : decide (4 < e.kind) = true := decide_eq_true (by omega)
    clear ha hk1 hk2
    go_enter Try.func78, Try.ntmps78
    go_upto_region 1 with (fail)
    generalize ((w.alloc _).alloc _).alloc _ = W3 at hB k0 ke kr hsz h3 ⊢
    have K0 := hide k0
    have KE := hide ke
    have KR := hide kr
    have H3 := hide h3
    have HB := hide hB
    have Hsz := hide hsz
    obtain ⟨a0, a1, a2, a3, a4, a5, a6, -⟩ := k0.seven
    obtain ⟨e0, e1, -⟩ := EvV.blk4 ke
    clear k0 ke kr h3 hB hsz
    obtain ⟨r0, r1, r2, r3, r4, r5, r6, s0, s1, s2, s3, s4, s5, s6⟩ := KR.out.seven
    go_wp2_with fail
    refine bodyPost_ret (v := .tuple #[.agg #[.slice A X.D.zs.length c, .int .i64 X.D.size, .int .i64 X.D.op, .int .i64 (X.D.n : Int), .bool X.D.down, .slice Ac X.coming.length cc, .slice Ah X.happened.length ch], .int .i64 10]) ?_ rfl ?_
    · exact R7.results_agg2 (cs := #[.slice A X.D.zs.length c, .int .i64 X.D.size, .int .i64 X.D.op, .int .i64 (X.D.n : Int), .bool X.D.down, .slice Ac X.coming.length cc, .slice Ah X.happened.length ch]) (fn := Try.f78) (p := 4) (u := 5) (g := w.heap.size + 1 + 1) (t := 62) rfl Try.underlying62 rfl sizeD8 _ _ rfl rfl (KR.out.put7 _ _ _ _ _ _ _)
    · have hmR : ∀ v0 v1 v2 v3 v4 v5 v6, Mods (fun k => k = w.heap.size + 1 + 1) W3 (put7 W3 (w.heap.size + 1 + 1) v0 v1 v2 v3 v4 v5 v6) := fun v0 v1 v2 v3 v4 v5 v6 => Mods.put7 _ _ _ _ _ _ _ _ _ _ rfl
      rw [Hfin.out]
      exact ⟨A, c, _, Ac, cc, Ah, ch, rfl, (H3.out.mods (hmR _ _ _ _ _ _ _) (fun k hk _ e => by have := hk.2; omega)).mono (fun k hk => .inl hk.1), HB.out.trans ((hmR _ _ _ _ _ _ _).below HB.out.size (fun k e => by omega))⟩
  by_cases hfull : 256 ≤ X.coming.length
  · have Hfin := hide (show X.plan e = (X, 17) by rw [Dr.plan, if_neg (by simp [EvV.right]; omega), if_pos hfull])
    have d0 : decide (e.at_ < 0) = false := decide_eq_false (by omega)
    have d1 : decide (e.kind < 1) = false := decide_eq_false (by omega)
    have d2 : decide (4 < e.kind) = false := decide_eq_false (by omega)
    have d3 : decide ((256 : Int) ≤ (X.coming.length : Int)) = true := decide_eq_true (by omega)
    have d4 : decide (256 ≤ X.coming.length) = true := decide_eq_true hfull
    clear ha hk1 hk2 hfull
    go_enter Try.func78, Try.ntmps78
    go_upto_region 1 with (fail)
    generalize ((w.alloc _).alloc _).alloc _ = W3 at hB k0 ke kr hsz h3 ⊢
    have K0 := hide k0
    have KE := hide ke
    have KR := hide kr
    have H3 := hide h3
    have HB := hide hB
    have Hsz := hide hsz
    obtain ⟨a0, a1, a2, a3, a4, a5, a6, -⟩ := k0.seven
    obtain ⟨e0, e1, -⟩ := EvV.blk4 ke
    clear k0 ke kr h3 hB hsz
    obtain ⟨r0, r1, r2, r3, r4, r5, r6, s0, s1, s2, s3, s4, s5, s6⟩ := KR.out.seven
    go_wp2_with fail
    refine bodyPost_ret (v := .tuple #[.agg #[.slice A X.D.zs.length c, .int .i64 X.D.size, .int .i64 X.D.op, .int .i64 (X.D.n : Int), .bool X.D.down, .slice Ac X.coming.length cc, .slice Ah X.happened.length ch], .int .i64 17]) ?_ rfl ?_
    · exact R7.results_agg2 (cs := #[.slice A X.D.zs.length c, .int .i64 X.D.size, .int .i64 X.D.op, .int .i64 (X.D.n : Int), .bool X.D.down, .slice Ac X.coming.length cc, .slice Ah X.happened.length ch]) (fn := Try.f78) (p := 4) (u := 5) (g := w.heap.size + 1 + 1) (t := 62) rfl Try.underlying62 rfl sizeD8 _ _ rfl rfl (KR.out.put7 _ _ _ _ _ _ _)
    · have hmR : ∀ v0 v1 v2 v3 v4 v5 v6, Mods (fun k => k = w.heap.size + 1 + 1) W3 (put7 W3 (w.heap.size + 1 + 1) v0 v1 v2 v3 v4 v5 v6) := fun v0 v1 v2 v3 v4 v5 v6 => Mods.put7 _ _ _ _ _ _ _ _ _ _ rfl
      rw [Hfin.out]
      exact ⟨A, c, _, Ac, cc, Ah, ch, rfl, (H3.out.mods (hmR _ _ _ _ _ _ _) (fun k hk _ e => by have := hk.2; omega)).mono (fun k hk => .inl hk.1), HB.out.trans ((hmR _ _ _ _ _ _ _).below HB.out.size (fun k e => by omega))⟩
  have Hfin := hide (show X.plan e = ({ X with coming := insertEv e X.coming }, 0) by rw [Dr.plan, if_neg (by simp [EvV.right]; omega), if_neg (by omega)])
  have d0 : decide (e.at_ < 0) = false := decide_eq_false (by omega)
  have d1 : decide (e.kind < 1) = false := decide_eq_false (by omega)
  have d2 : decide (4 < e.kind) = false := decide_eq_false (by omega)
  have d3 : decide ((256 : Int) ≤ (X.coming.length : Int)) = false := decide_eq_false (by omega)
  have d4 : decide (256 ≤ X.coming.length) = false := decide_eq_false (by omega)
  clear ha hk1 hk2 hfull
  go_enter Try.func78, Try.ntmps78
  go_upto_region 1 with (fail)
  generalize ((w.alloc _).alloc _).alloc _ = W3 at hB k0 ke kr hsz h3 ⊢
  have K0 := hide k0
  have KE := hide ke
  have KR := hide kr
  have H3 := hide h3
  have HB := hide hB
  have Hsz := hide hsz
  obtain ⟨a0, a1, a2, a3, a4, a5, a6, -⟩ := k0.seven
  obtain ⟨e0, e1, -⟩ := EvV.blk4 ke
  clear k0 ke kr h3 hB hsz
  obtain ⟨i0, hi, hz0, hz1, hz2⟩ := info_parts E8.info
  go_wp2_with fail
  clear d0 d1 d2 d3 d4 a0 a1 a2 a3 a4 a5 a6 e0 e1
  go_loopw [6, 7, 8] (fun v dv i wr => ∃ k : Nat, k ≤ X.coming.length ∧ i = .int .i64 k ∧ ∃ (out : List EvV) (B : Option Addr) (n cb : Nat) (dn : Bool), v = .slice B n cb ∧ dv = .bool dn ∧ n = out.length ∧ wr.ownsRow (w.heap.size + 3) 116 68 (.slice B n cb) n (out.flatMap EvV.cells) ∧ PlanAt e X.coming k out dn ∧ Mods (fun b => w.heap.size + 3 ≤ b) W3 wr) (fun _ _ i _ => X.coming.length - (intOf i).toNat)
  case atStart => exact ⟨0, Nat.zero_le _, rfl, [], none, 0, 0, false, rfl, rfl, rfl, World.ownsRow_nil _ _ _ _, PlanAt.start _ _, Mods.refl _ _⟩
  case round =>
    obtain ⟨k, hk, rfl, out, B, n, cb, dn, rfl, rfl, hno, hown, hat, hm⟩ := hrel
    have Hownwr := hide hown
    have HMwr := hide hm
    have Hat := hide hat
    have Hno := hide hno
    have Hn : Hid (n < 65002) := hide (by have := hat.len; have := Hl.out; omega)
    clear hown hm hat hno
    have K0wr := hide (K0.out.mods HMwr.out (by omega))
    have KEwr := hide (KE.out.mods HMwr.out (by omega))
    have H3wr := hide (H3.out.mods HMwr.out (fun k hk _ e => by have := hk.2; omega))
    obtain ⟨a0, a1, a2, a3, a4, a5, a6, -, -, -, -, -, f5, -⟩ := K0wr.out.seven
    obtain ⟨e0, e1, -⟩ := EvV.blk4 KEwr.out
    by_cases hkl : k < X.coming.length
    · have g0 : decide ((k : Int) < (X.coming.length : Int)) = true := decide_eq_true (by omega)
      have g1 : decide (k < X.coming.length) = true := decide_eq_true hkl
      have ew : IntKind.i64.wrap ((k : Int) + 1) = ((k + 1 : Nat) : Int) := by rw [IntWalk.i64_in _ (by have := Hl.out; omega)]; omega
      obtain ⟨b, off, hA, -, -, hr0⟩ := H3wr.out.com.at_ hkl
      rw [hA] at a5
      obtain ⟨r0, -⟩ := EvV.four hr0
      have Hr0 := hide hr0
      have HA := hide hA
      clear hr0 hA
      cases dn with
      | true =>
        go_upto_region 10 with (fail)
        go_quiet (fail)
        clear a0 a1 a2 a3 a4 a5 a6 f5 e0 e1 r0
        have Hownwq := hide (own_mods Hownwr.out ((Mods.refl (fun _ => False) wr).drewN nq) (fun _ _ h => h))
        have HMwq := hide (HMwr.out.drewN nq)
        clear Hownwr HMwr
        generalize wr.drewN nq = wq at Hownwq HMwq ⊢
        have K0wq := hide (K0.out.mods HMwq.out (by omega))
        have KEwq := hide (KE.out.mods HMwq.out (by omega))
        have H3wq := hide (H3.out.mods HMwq.out (fun k hk _ e => by have := hk.2; omega))
        obtain ⟨a0, a1, a2, a3, a4, a5, a6, -, -, -, -, -, f5, -⟩ := K0wq.out.seven
        obtain ⟨e0, e1, -⟩ := EvV.blk4 KEwq.out
        rw [HA.out] at a5
        have Hr0 := hide ((H3wq.out.com.at_ hkl))
        obtain ⟨b', off', hA', -, -, hr0⟩ := Hr0.out
        obtain ⟨rfl, rfl⟩ : b = b' ∧ off = off' := by rw [HA.out] at hA'; simpa using hA'
        clear Hr0 hA'
        have Hr0 := hide hr0
        clear hr0
        have HownB1 := hide (own_mods Hownwq.out (Mods.of_below ((Below.refl _ wq).alloc (Nat.le_refl _) (.cells X.coming[k].cells.toArray 116)) (fun _ => False)) (fun _ _ h => h))
        have Hsrc1 := hide (own_ev X.coming[k] (heap_alloc_new wq (.cells X.coming[k].cells.toArray 116)))
        have Hs1 : Hid (w.heap.size + 3 ≤ wq.heap.size) := hide (by have := HMwq.out.size; have := Hsz.out; omega)
        go_upto_region 9 with (first | ((with_reducible refine wpList_load_mid ?g1 116 (.tmp 56) ?o1 b ((off + k * 68)) ?x1 X.coming[k].cells ?d1 ?r1 ?u1 ?f1 ?i1 ?_); (case g1 => exact rfl); (case o1 => exact rfl); (case x1 => exact rfl); (case r1 => exact Hr0.out); (case u1 => exact Try.underlying116); (case f1 => exact rfl); (case i1 => exact E8.size _)) | ((with_reducible refine E8.wpList_build1 ?g4 X.coming[k] (.tmp 57) ?o4 ?p4 ?_); (case g4 => exact rfl); (case o4 => exact rfl); (case p4 => exact rfl)) | (at_builtin; refine wpList_append_src _ rfl (.tmp 52) (.tmp 58) 60 rfl (w.heap.size + 3) 116 i0 _ 68 96 Try.underlying60 hi hz0 hz1 hz2 (by simp [EvV.agg, Value.cells, EvV.length]) (by decide) (.slice B n cb) n (out.flatMap EvV.cells) rfl HownB1.out _ 1 1 X.coming[k].cells rfl Hsrc1.out X.coming[k].one (by have := Hn.out; unfold maxLen; omega) (by have := Hn.out; omega) (by have := Hs1.out; simp; omega) ?_; intro v2 w1 hown2 hgrow2 hat2; obtain ⟨B1, c1, rfl⟩ := own_form hown2; have hm2 := (((Mods.refl (fun k => w.heap.size + 3 ≤ k) wq).alloc (.cells X.coming[k].cells.toArray 116)).grown hgrow2 (fun k hk => .inl (HownB1.out.lt k hk).1)); have Hownw1 := hide hown2; have HMw1 := hide (HMwq.out.trans hm2 (fun _ _ h => h)); clear hown2 hgrow2 hat2 hm2))
        go_wp2_with fail
        go_roundw
        case rel => exact ⟨k + 1, by omega, by simp, (out ++ [X.coming[k]]), B1, (n + 1), c1, true, rfl, rfl, by have := Hno.out; simp; omega, by first | exact Hownw1.out | (have := Hownw1.out; simpa using this), Hat.out.on hkl, HMw1.out⟩
        case measure => simp [intOf]; omega
      | false =>
        by_cases hlt : e.at_ < X.coming[k].at_
        · have g2 : decide (e.at_ < X.coming[k].at_) = true := decide_eq_true hlt
          have Hlt := hide hlt
          clear hlt
          go_upto_region 10 with (fail)
          go_quiet (fail)
          clear a0 a1 a2 a3 a4 a5 a6 f5 e0 e1 r0 g2
          have Hownwq := hide (own_mods Hownwr.out ((Mods.refl (fun _ => False) wr).drewN nq) (fun _ _ h => h))
          have HMwq := hide (HMwr.out.drewN nq)
          clear Hownwr HMwr
          generalize wr.drewN nq = wq at Hownwq HMwq ⊢
          have K0wq := hide (K0.out.mods HMwq.out (by omega))
          have KEwq := hide (KE.out.mods HMwq.out (by omega))
          have H3wq := hide (H3.out.mods HMwq.out (fun k hk _ e => by have := hk.2; omega))
          obtain ⟨a0, a1, a2, a3, a4, a5, a6, -, -, -, -, -, f5, -⟩ := K0wq.out.seven
          obtain ⟨e0, e1, -⟩ := EvV.blk4 KEwq.out
          have HownB1 := hide (own_mods Hownwq.out (Mods.of_below ((Below.refl _ wq).alloc (Nat.le_refl _) (.cells e.cells.toArray 116)) (fun _ => False)) (fun _ _ h => h))
          have Hsrc1 := hide (own_ev e (heap_alloc_new wq (.cells e.cells.toArray 116)))
          have Hs1 : Hid (w.heap.size + 3 ≤ wq.heap.size) := hide (by have := HMwq.out.size; have := Hsz.out; omega)
          go_upto_region 12 with (first | ((with_reducible refine wpList_load_mid ?g1 116 (.tmp 3) ?o1 (w.heap.size + 1) (0) ?x1 e.cells ?d1 ?r1 ?u1 ?f1 ?i1 ?_); (case g1 => exact rfl); (case o1 => exact rfl); (case x1 => exact rfl); (case r1 => exact e.range KEwq.out); (case u1 => exact Try.underlying116); (case f1 => exact rfl); (case i1 => exact E8.size _)) | ((with_reducible refine E8.wpList_build1 ?g4 e (.tmp 49) ?o4 ?p4 ?_); (case g4 => exact rfl); (case o4 => exact rfl); (case p4 => exact rfl)) | (at_builtin; refine wpList_append_src _ rfl (.tmp 48) (.tmp 50) 60 rfl (w.heap.size + 3) 116 i0 _ 68 96 Try.underlying60 hi hz0 hz1 hz2 (by simp [EvV.agg, Value.cells, EvV.length]) (by decide) (.slice B n cb) n (out.flatMap EvV.cells) rfl HownB1.out _ 1 1 e.cells rfl Hsrc1.out e.one (by have := Hn.out; unfold maxLen; omega) (by have := Hn.out; omega) (by have := Hs1.out; simp; omega) ?_; intro v2 w1 hown2 hgrow2 hat2; obtain ⟨B1, c1, rfl⟩ := own_form hown2; have hm2 := (((Mods.refl (fun k => w.heap.size + 3 ≤ k) wq).alloc (.cells e.cells.toArray 116)).grown hgrow2 (fun k hk => .inl (HownB1.out.lt k hk).1)); have Hownw1 := hide hown2; have HMw1 := hide (HMwq.out.trans hm2 (fun _ _ h => h)); clear hown2 hgrow2 hat2 hm2))
          clear a0 a1 a2 a3 a4 a5 a6 f5 e0 e1
          have K0w1 := hide (K0.out.mods HMw1.out (by omega))
          have KEw1 := hide (KE.out.mods HMw1.out (by omega))
          have H3w1 := hide (H3.out.mods HMw1.out (fun k hk _ e => by have := hk.2; omega))
          obtain ⟨a0, a1, a2, a3, a4, a5, a6, -, -, -, -, -, f5, -⟩ := K0w1.out.seven
          obtain ⟨e0, e1, -⟩ := EvV.blk4 KEw1.out
          rw [HA.out] at a5
          obtain ⟨b', off', hA', -, -, hr0⟩ := H3w1.out.com.at_ hkl
          obtain ⟨rfl, rfl⟩ : b = b' ∧ off = off' := by rw [HA.out] at hA'; simpa using hA'
          clear Hr0 hA'
          have Hr0 := hide hr0
          clear hr0
          go_upto_region 13 with (fail)
          have HownB2 := hide (own_mods Hownw1.out (Mods.of_below ((Below.refl _ w1).alloc (Nat.le_refl _) (.cells X.coming[k].cells.toArray 116)) (fun _ => False)) (fun _ _ h => h))
          have Hsrc2 := hide (own_ev X.coming[k] (heap_alloc_new w1 (.cells X.coming[k].cells.toArray 116)))
          have Hs2 : Hid (w.heap.size + 3 ≤ w1.heap.size) := hide (by have := HMw1.out.size; have := Hsz.out; omega)
          go_upto_region 9 with (first | ((with_reducible refine wpList_load_mid ?g1 116 (.tmp 56) ?o1 b ((off + k * 68)) ?x1 X.coming[k].cells ?d1 ?r1 ?u1 ?f1 ?i1 ?_); (case g1 => exact rfl); (case o1 => exact rfl); (case x1 => exact rfl); (case r1 => exact Hr0.out); (case u1 => exact Try.underlying116); (case f1 => exact rfl); (case i1 => exact E8.size _)) | ((with_reducible refine E8.wpList_build1 ?g4 X.coming[k] (.tmp 57) ?o4 ?p4 ?_); (case g4 => exact rfl); (case o4 => exact rfl); (case p4 => exact rfl)) | (at_builtin; refine wpList_append_src _ rfl (.tmp 52) (.tmp 58) 60 rfl (w.heap.size + 3) 116 i0 _ 68 96 Try.underlying60 hi hz0 hz1 hz2 (by simp [EvV.agg, Value.cells, EvV.length]) (by decide) (.slice B1 (n + 1) c1) (n + 1) (out.flatMap EvV.cells ++ e.cells) rfl HownB2.out _ 1 1 X.coming[k].cells rfl Hsrc2.out X.coming[k].one (by have := Hn.out; unfold maxLen; omega) (by have := Hn.out; omega) (by have := Hs2.out; simp; omega) ?_; intro v2 w2 hown2 hgrow2 hat2; obtain ⟨B2, c2, rfl⟩ := own_form hown2; have hm2 := (((Mods.refl (fun k => w.heap.size + 3 ≤ k) w1).alloc (.cells X.coming[k].cells.toArray 116)).grown hgrow2 (fun k hk => .inl (HownB2.out.lt k hk).1)); have Hownw2 := hide hown2; have HMw2 := hide (HMw1.out.trans hm2 (fun _ _ h => h)); clear hown2 hgrow2 hat2 hm2))
          go_wp2_with fail
          go_roundw
          case rel => exact ⟨k + 1, by omega, by simp, (out ++ [e] ++ [X.coming[k]]), B2, (n + 1 + 1), c2, true, rfl, rfl, by have := Hno.out; simp; omega, by first | exact Hownw2.out | (have := Hownw2.out; simpa using this), Hat.out.early hkl Hlt.out, HMw2.out⟩
          case measure => simp [intOf]; omega
        · have g2 : decide (e.at_ < X.coming[k].at_) = false := decide_eq_false hlt
          have Hlt := hide hlt
          clear hlt
          go_upto_region 10 with (fail)
          go_quiet (fail)
          clear a0 a1 a2 a3 a4 a5 a6 f5 e0 e1 r0 g2
          have Hownwq := hide (own_mods Hownwr.out ((Mods.refl (fun _ => False) wr).drewN nq) (fun _ _ h => h))
          have HMwq := hide (HMwr.out.drewN nq)
          clear Hownwr HMwr
          generalize wr.drewN nq = wq at Hownwq HMwq ⊢
          have K0wq := hide (K0.out.mods HMwq.out (by omega))
          have KEwq := hide (KE.out.mods HMwq.out (by omega))
          have H3wq := hide (H3.out.mods HMwq.out (fun k hk _ e => by have := hk.2; omega))
          obtain ⟨a0, a1, a2, a3, a4, a5, a6, -, -, -, -, -, f5, -⟩ := K0wq.out.seven
          obtain ⟨e0, e1, -⟩ := EvV.blk4 KEwq.out
          rw [HA.out] at a5
          obtain ⟨b', off', hA', -, -, hr0⟩ := H3wq.out.com.at_ hkl
          obtain ⟨rfl, rfl⟩ : b = b' ∧ off = off' := by rw [HA.out] at hA'; simpa using hA'
          clear Hr0 hA'
          have Hr0 := hide hr0
          clear hr0
          have HownB1 := hide (own_mods Hownwq.out (Mods.of_below ((Below.refl _ wq).alloc (Nat.le_refl _) (.cells X.coming[k].cells.toArray 116)) (fun _ => False)) (fun _ _ h => h))
          have Hsrc1 := hide (own_ev X.coming[k] (heap_alloc_new wq (.cells X.coming[k].cells.toArray 116)))
          have Hs1 : Hid (w.heap.size + 3 ≤ wq.heap.size) := hide (by have := HMwq.out.size; have := Hsz.out; omega)
          go_upto_region 9 with (first | ((with_reducible refine wpList_load_mid ?g1 116 (.tmp 56) ?o1 b ((off + k * 68)) ?x1 X.coming[k].cells ?d1 ?r1 ?u1 ?f1 ?i1 ?_); (case g1 => exact rfl); (case o1 => exact rfl); (case x1 => exact rfl); (case r1 => exact Hr0.out); (case u1 => exact Try.underlying116); (case f1 => exact rfl); (case i1 => exact E8.size _)) | ((with_reducible refine E8.wpList_build1 ?g4 X.coming[k] (.tmp 57) ?o4 ?p4 ?_); (case g4 => exact rfl); (case o4 => exact rfl); (case p4 => exact rfl)) | (at_builtin; refine wpList_append_src _ rfl (.tmp 52) (.tmp 58) 60 rfl (w.heap.size + 3) 116 i0 _ 68 96 Try.underlying60 hi hz0 hz1 hz2 (by simp [EvV.agg, Value.cells, EvV.length]) (by decide) (.slice B n cb) n (out.flatMap EvV.cells) rfl HownB1.out _ 1 1 X.coming[k].cells rfl Hsrc1.out X.coming[k].one (by have := Hn.out; unfold maxLen; omega) (by have := Hn.out; omega) (by have := Hs1.out; simp; omega) ?_; intro v2 w1 hown2 hgrow2 hat2; obtain ⟨B1, c1, rfl⟩ := own_form hown2; have hm2 := (((Mods.refl (fun k => w.heap.size + 3 ≤ k) wq).alloc (.cells X.coming[k].cells.toArray 116)).grown hgrow2 (fun k hk => .inl (HownB1.out.lt k hk).1)); have Hownw1 := hide hown2; have HMw1 := hide (HMwq.out.trans hm2 (fun _ _ h => h)); clear hown2 hgrow2 hat2 hm2))
          go_wp2_with fail
          go_roundw
          case rel => exact ⟨k + 1, by omega, by simp, (out ++ [X.coming[k]]), B1, (n + 1), c1, false, rfl, rfl, by have := Hno.out; simp; omega, by first | exact Hownw1.out | (have := Hownw1.out; simpa using this), Hat.out.late hkl Hlt.out, HMw1.out⟩
          case measure => simp [intOf]; omega
    · obtain rfl : k = X.coming.length := by omega
      have g0 : decide ((X.coming.length : Int) < (X.coming.length : Int)) = false := decide_eq_false (by omega)
      cases dn with
      | true =>
        have Hout := hide (Hat.out.end2)
        have Hlen := Hno
        clear Hat
        go_upto_region 17 with (fail)
        have hmS : Mods (fun k => k = w.heap.size) wr (wr.setCell ⟨w.heap.size, 5, none⟩ (.slice B n cb)) := (Mods.refl (fun k => k = w.heap.size) wr).setCell (p := ⟨w.heap.size, 5, none⟩) (.inl rfl) _
        have k05 : Blk (wr.setCell ⟨w.heap.size, 5, none⟩ (.slice B n cb)) w.heap.size 62 #[.slice A X.D.zs.length c, .int .i64 X.D.size, .int .i64 X.D.op, .int .i64 (X.D.n : Int), .bool X.D.down, .slice B n cb, .slice Ah X.happened.length ch] := K0wr.out.set_ 5 _
        have kr5 := (KR.out.mods HMwr.out (by omega)).mods hmS (by omega)
        have h5 := H3wr.out.mods hmS (fun k hk _ e => by have := hk.2; omega)
        have hB5 := (HB.out.trans (HMwr.out.below (by have := Hsz.out; omega) (fun k hk => by omega))).trans (hmS.below (by have := HMwr.out.size; have := Hsz.out; omega) (fun k e => by omega))
        have hown5 := own_mods Hownwr.out hmS (fun g hg e => by have := (Hownwr.out.lt g hg).1; omega)
        clear hmS a0 a1 a2 a3 a4 a5 a6 f5 e0 e1
        generalize wr.setCell ⟨w.heap.size, 5, none⟩ (.slice B n cb) = w5 at k05 kr5 h5 hB5 hown5 ⊢
        have KR5 := hide kr5
        have H5 := hide h5
        have HB5 := hide hB5
        have Hown5 := hide hown5
        obtain ⟨a0, a1, a2, a3, a4, a5, a6, -⟩ := k05.seven
        obtain ⟨r0, r1, r2, r3, r4, r5, r6, s0, s1, s2, s3, s4, s5, s6⟩ := kr5.seven
        clear k05 kr5 h5 hB5 hown5
        go_wp2_with fail
        refine bodyPost_ret (v := .tuple #[.agg #[.slice A X.D.zs.length c, .int .i64 X.D.size, .int .i64 X.D.op, .int .i64 (X.D.n : Int), .bool X.D.down, .slice B n cb, .slice Ah X.happened.length ch], .int .i64 0]) ?_ rfl ?_
        · exact R7.results_agg2 (cs := #[.slice A X.D.zs.length c, .int .i64 X.D.size, .int .i64 X.D.op, .int .i64 (X.D.n : Int), .bool X.D.down, .slice B n cb, .slice Ah X.happened.length ch]) (fn := Try.f78) (p := 4) (u := 5) (g := w.heap.size + 1 + 1) (t := 62) rfl Try.underlying62 rfl sizeD8 _ _ rfl rfl (KR5.out.put7 _ _ _ _ _ _ _)
        · have hmR : ∀ v0 v1 v2 v3 v4 v5 v6, Mods (fun k => k = w.heap.size + 1 + 1) w5 (put7 w5 (w.heap.size + 1 + 1) v0 v1 v2 v3 v4 v5 v6) := fun v0 v1 v2 v3 v4 v5 v6 => Mods.put7 _ _ _ _ _ _ _ _ _ _ rfl
          rw [Hfin.out]
          exact GaveP.plan Hout.out H5.out Hown5.out Hlen.out (hmR _ _ _ _ _ _ _) HB5.out
      | false =>
        have Hout := hide (Hat.out.end_)
        clear Hat
        go_upto_region 15 with (fail)
        have HownB1 := hide (own_mods Hownwr.out (Mods.of_below ((Below.refl _ wr).alloc (Nat.le_refl _) (.cells e.cells.toArray 116)) (fun _ => False)) (fun _ _ h => h))
        have Hsrc1 := hide (own_ev e (heap_alloc_new wr (.cells e.cells.toArray 116)))
        have Hs1 : Hid (w.heap.size + 3 ≤ wr.heap.size) := hide (by have := HMwr.out.size; have := Hsz.out; omega)
        go_upto_region 16 with (first | ((with_reducible refine wpList_load_mid ?g1 116 (.tmp 3) ?o1 (w.heap.size + 1) (0) ?x1 e.cells ?d1 ?r1 ?u1 ?f1 ?i1 ?_); (case g1 => exact rfl); (case o1 => exact rfl); (case x1 => exact rfl); (case r1 => exact e.range KEwr.out); (case u1 => exact Try.underlying116); (case f1 => exact rfl); (case i1 => exact E8.size _)) | ((with_reducible refine E8.wpList_build1 ?g4 e (.tmp 63) ?o4 ?p4 ?_); (case g4 => exact rfl); (case o4 => exact rfl); (case p4 => exact rfl)) | (at_builtin; refine wpList_append_src _ rfl (.tmp 62) (.tmp 64) 60 rfl (w.heap.size + 3) 116 i0 _ 68 96 Try.underlying60 hi hz0 hz1 hz2 (by simp [EvV.agg, Value.cells, EvV.length]) (by decide) (.slice B n cb) n (out.flatMap EvV.cells) rfl HownB1.out _ 1 1 e.cells rfl Hsrc1.out e.one (by have := Hn.out; unfold maxLen; omega) (by have := Hn.out; omega) (by have := Hs1.out; simp; omega) ?_; intro v2 w1 hown2 hgrow2 hat2; obtain ⟨B1, c1, rfl⟩ := own_form hown2; have hm2 := (((Mods.refl (fun k => w.heap.size + 3 ≤ k) wr).alloc (.cells e.cells.toArray 116)).grown hgrow2 (fun k hk => .inl (HownB1.out.lt k hk).1)); have Hownw1 := hide hown2; have HMw1 := hide (HMwr.out.trans hm2 (fun _ _ h => h)); clear hown2 hgrow2 hat2 hm2))
        clear a0 a1 a2 a3 a4 a5 a6 f5 e0 e1
        have K0w1 := hide (K0.out.mods HMw1.out (by omega))
        have KEw1 := hide (KE.out.mods HMw1.out (by omega))
        have H3w1 := hide (H3.out.mods HMw1.out (fun k hk _ e => by have := hk.2; omega))
        obtain ⟨a0, a1, a2, a3, a4, a5, a6, -, -, -, -, -, f5, -⟩ := K0w1.out.seven
        obtain ⟨e0, e1, -⟩ := EvV.blk4 KEw1.out
        have Hlen : Hid (n + 1 = (out ++ [e]).length) := hide (by have := Hno.out; simp; omega)
        rw [← evs_snoc] at Hownw1
        go_upto_region 17 with (fail)
        have hmS : Mods (fun k => k = w.heap.size) w1 (w1.setCell ⟨w.heap.size, 5, none⟩ (.slice B1 (n + 1) c1)) := (Mods.refl (fun k => k = w.heap.size) w1).setCell (p := ⟨w.heap.size, 5, none⟩) (.inl rfl) _
        have k05 : Blk (w1.setCell ⟨w.heap.size, 5, none⟩ (.slice B1 (n + 1) c1)) w.heap.size 62 #[.slice A X.D.zs.length c, .int .i64 X.D.size, .int .i64 X.D.op, .int .i64 (X.D.n : Int), .bool X.D.down, .slice B1 (n + 1) c1, .slice Ah X.happened.length ch] := K0w1.out.set_ 5 _
        have kr5 := (KR.out.mods HMw1.out (by omega)).mods hmS (by omega)
        have h5 := H3w1.out.mods hmS (fun k hk _ e => by have := hk.2; omega)
        have hB5 := (HB.out.trans (HMw1.out.below (by have := Hsz.out; omega) (fun k hk => by omega))).trans (hmS.below (by have := HMw1.out.size; have := Hsz.out; omega) (fun k e => by omega))
        have hown5 := own_mods Hownw1.out hmS (fun g hg e => by have := (Hownw1.out.lt g hg).1; omega)
        clear hmS a0 a1 a2 a3 a4 a5 a6 f5 e0 e1
        generalize w1.setCell ⟨w.heap.size, 5, none⟩ (.slice B1 (n + 1) c1) = w5 at k05 kr5 h5 hB5 hown5 ⊢
        have KR5 := hide kr5
        have H5 := hide h5
        have HB5 := hide hB5
        have Hown5 := hide hown5
        obtain ⟨a0, a1, a2, a3, a4, a5, a6, -⟩ := k05.seven
        obtain ⟨r0, r1, r2, r3, r4, r5, r6, s0, s1, s2, s3, s4, s5, s6⟩ := kr5.seven
        clear k05 kr5 h5 hB5 hown5
        go_wp2_with fail
        refine bodyPost_ret (v := .tuple #[.agg #[.slice A X.D.zs.length c, .int .i64 X.D.size, .int .i64 X.D.op, .int .i64 (X.D.n : Int), .bool X.D.down, .slice B1 (n + 1) c1, .slice Ah X.happened.length ch], .int .i64 0]) ?_ rfl ?_
        · exact R7.results_agg2 (cs := #[.slice A X.D.zs.length c, .int .i64 X.D.size, .int .i64 X.D.op, .int .i64 (X.D.n : Int), .bool X.D.down, .slice B1 (n + 1) c1, .slice Ah X.happened.length ch]) (fn := Try.f78) (p := 4) (u := 5) (g := w.heap.size + 1 + 1) (t := 62) rfl Try.underlying62 rfl sizeD8 _ _ rfl rfl (KR5.out.put7 _ _ _ _ _ _ _)
        · have hmR : ∀ v0 v1 v2 v3 v4 v5 v6, Mods (fun k => k = w.heap.size + 1 + 1) w5 (put7 w5 (w.heap.size + 1 + 1) v0 v1 v2 v3 v4 v5 v6) := fun v0 v1 v2 v3 v4 v5 v6 => Mods.put7 _ _ _ _ _ _ _ _ _ _ rfl
          rw [Hfin.out]
          exact GaveP.plan Hout.out H5.out Hown5.out Hlen.out (hmR _ _ _ _ _ _ _) HB5.out
end
end R8
end Go.Proofs.Ytdinbhanekpjoaa
