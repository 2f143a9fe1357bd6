/-
  A drive's play in plain words: one step of it, and what every step keeps.
-/
import Derived.Test.YtdinbhanekpjoaaQDrv8g
namespace Go.Proofs.Ytdinbhanekpjoaa
open Go.RowKit

/-- A step, as it came in: the numbers, the sector and the ints of a device's step, and an event. -/
structure OpP where
  o : OpV
  e : EvV
def OpP.cells (p : OpP) : List Value := p.o.cells ++ p.e.cells
theorem OpP.length (p : OpP) : p.cells.length = 136 := by simp [OpP.cells, p.o.length, p.e.length]
structure OpP.Fits (p : OpP) : Prop where
  zone : fits p.o.zone
  off : fits p.o.off
  ev : p.e.Fits
namespace Dr
/-- An event is planned n times. -/
def planN (X : Dr) (e : EvV) : Nat → Dr
  | 0 => X
  | n + 1 => ((planN X e n).plan e).1
def times (off : Int) : Nat := (max (min off 300) 0).toNat
def play (X : Dr) (p : OpP) : Dr :=
  if p.o.kind = 1 then (X.append p.o.zone p.o.s).1 else if p.o.kind = 2 then (X.read p.o.zone p.o.off).1 else if p.o.kind = 3 then (X.reset p.o.zone).1 else if p.o.kind = 4 then (X.finish p.o.zone).1
  else if p.o.kind = 5 then X.flush.1 else if p.o.kind = 6 then X.revive p.o.keep else if p.o.kind = 7 then (X.plan p.e).1 else if p.o.kind = 8 then X.planN p.e (times p.o.off) else X
/-- What every step keeps, m: how many there were. -/
structure Good (m : Nat) (X : Dr) : Prop where
  ok : X.D.Ok m
  fit : ∀ e ∈ X.coming, e.Fits
  srt : Sorted8 X.coming
  cnt : X.happened.length + X.coming.length ≤ 300 * m
  mks : ∀ z o, 0 ≤ (X.marks z o).2 ∧ (X.marks z o).2 ≤ (X.happened.length : Int)
theorem Good.bd {m : Nat} {X : Dr} (h : X.Good m) (hm : m < 200) : X.Bd :=
  ⟨fun x hx => by have := (h.ok.zs x hx).1; omega, h.fit, by have := h.cnt; omega, h.mks⟩
theorem Good.mono {m m' : Nat} {X : Dr} (h : X.Good m) (hm : m ≤ m') : X.Good m' := ⟨h.ok.mono hm, h.fit, h.srt, by have := h.cnt; omega, h.mks⟩

theorem mks_upd {M : Marks} {B : Int} (h : ∀ z o, 0 ≤ (M z o).2 ∧ (M z o).2 ≤ B) (z o : Int) : ∀ z' o', 0 ≤ (M.upd z o (Sec.zero, 0) z' o').2 ∧ (M.upd z o (Sec.zero, 0) z' o').2 ≤ B := fun z' o' => by
  have hB := h z o
  unfold Marks.upd
  split
  · exact ⟨Int.le_refl _, by show (0 : Int) ≤ B; omega⟩
  · exact h z' o'
theorem mks_forget {M : Marks} {B : Int} (h : ∀ z o, 0 ≤ (M z o).2 ∧ (M z o).2 ≤ B) (s z f : Int) : ∀ z' o', 0 ≤ (M.forget s z f z' o').2 ∧ (M.forget s z f z' o').2 ≤ B := fun z' o' => by
  have hB := h z f
  unfold Marks.forget
  split
  · exact ⟨Int.le_refl _, by show (0 : Int) ≤ B; omega⟩
  · exact h z' o'
theorem mks_rev {M : Marks} {B : Int} (h : ∀ z o, 0 ≤ (M z o).2 ∧ (M z o).2 ≤ B) (D : Dv) : ∀ k z o, 0 ≤ (revTo M D k z o).2 ∧ (revTo M D k z o).2 ≤ B
  | 0 => h
  | k + 1 => mks_forget (mks_rev h D k) _ _ _

theorem happen_sum (X : Dr) (e : EvV) (l : List EvV) (hc : X.coming = e :: l) : (({ X with coming := l } : Dr).happen e).happened.length + (({ X with coming := l } : Dr).happen e).coming.length = X.happened.length + X.coming.length := by
  rw [happen_coming, happen_happened, hc]
  simp
  omega
/-- What is to come stays sorted, and none is lost. -/
theorem due_more {X : Dr} (hs : Sorted8 X.coming) : Sorted8 X.due.coming ∧ X.due.happened.length + X.due.coming.length = X.happened.length + X.coming.length ∧ (∀ e ∈ X.due.coming, e ∈ X.coming) :=
  due_ind (P := fun Y => Sorted8 Y.coming ∧ Y.happened.length + Y.coming.length = X.happened.length + X.coming.length ∧ ∀ e ∈ Y.coming, e ∈ X.coming) X ⟨hs, rfl, fun _ h => h⟩ (fun Y e l hY hc _ _ => by
    refine ⟨?_, (happen_sum Y e l hc).trans hY.2.1, ?_⟩
    · rw [happen_coming]
      have := hY.1
      rw [hc] at this
      exact (List.pairwise_cons.1 this).2
    · rw [happen_coming]
      exact fun f hf => hY.2.2 f (by rw [hc]; exact List.mem_cons_of_mem _ hf))
theorem Good.due {m : Nat} {X : Dr} (h : X.Good m) (hm : m < 200) : X.due.Good m ∧ X.D.Like X.due.D ∧ X.due.D.n = X.D.n := by
  obtain ⟨h1, h2, h3, h4⟩ := due_keeps (h.bd hm) h.ok
  obtain ⟨h5, h6, h7⟩ := due_more h.srt
  exact ⟨⟨h4, h1.fit, h5, by have := h.cnt; omega, h1.mks⟩, h3, h2⟩
theorem Good.begin {m : Nat} {X : Dr} (h : X.Good m) (hm : m < 200) (z : Int) : (X.begin_ z).Good m ∧ X.D.Like (X.begin_ z).D ∧ (X.begin_ z).D.n = X.D.n := by
  unfold begin_
  split
  · exact h.due hm
  · exact ⟨h, .refl _, rfl⟩
/-- The device takes a step, and marks are made or forgotten. -/
theorem Good.dev {m : Nat} {X : Dr} (h : X.Good m) {D' : Dv} (hD : D'.Ok (m + 1)) {M : Marks} (hM : ∀ z o, 0 ≤ (M z o).2 ∧ (M z o).2 ≤ (X.happened.length : Int)) : Good (m + 1) { X with D := D', marks := M } :=
  ⟨hD, h.fit, h.srt, by have := h.cnt; show X.happened.length + X.coming.length ≤ _; omega, hM⟩
theorem plan_D (X : Dr) (e : EvV) : (X.plan e).1.D = X.D ∧ (X.plan e).1.happened = X.happened ∧ (X.plan e).1.marks = X.marks := by
  unfold plan
  split
  · exact ⟨rfl, rfl, rfl⟩
  · split <;> exact ⟨rfl, rfl, rfl⟩
theorem plan_coming (X : Dr) (e : EvV) : (X.plan e).1.coming = X.coming ∨ (X.plan e).1.coming = insertEv e X.coming := by
  unfold plan
  split
  · exact .inl rfl
  · split
    · exact .inl rfl
    · exact .inr rfl
/-- An event is planned: m steps, k events more. -/
structure Good2 (m k : Nat) (X : Dr) : Prop where
  ok : X.D.Ok m
  fit : ∀ e ∈ X.coming, e.Fits
  srt : Sorted8 X.coming
  cnt : X.happened.length + X.coming.length ≤ 300 * m + k
  mks : ∀ z o, 0 ≤ (X.marks z o).2 ∧ (X.marks z o).2 ≤ (X.happened.length : Int)
theorem Good2.plan {m k : Nat} {X : Dr} (h : X.Good2 m k) {e : EvV} (he : e.Fits) : (X.plan e).1.Good2 m (k + 1) := by
  obtain ⟨h1, h2, h3⟩ := plan_D X e
  rcases plan_coming X e with hc | hc
  · exact ⟨by rw [h1]; exact h.ok, by rw [hc]; exact h.fit, by rw [hc]; exact h.srt, by rw [hc, h2]; have := h.cnt; omega, by rw [h2, h3]; exact h.mks⟩
  · refine ⟨by rw [h1]; exact h.ok, fun f hf => ?_, by rw [hc]; exact insertEv_sorted e _ h.srt, ?_, by rw [h2, h3]; exact h.mks⟩
    · rw [hc] at hf
      rcases (insertEv_mem e _ f).1 hf with rfl | hf
      · exact he
      · exact h.fit f hf
    · rw [hc, h2, insertEv_length]
      have := h.cnt
      omega
theorem Good2.planN {m : Nat} {X : Dr} (h : X.Good2 m 0) {e : EvV} (he : e.Fits) : ∀ n, (X.planN e n).Good2 m n
  | 0 => h
  | n + 1 => (Good2.planN h he n).plan he
theorem planN_D (X : Dr) (e : EvV) : ∀ n, (X.planN e n).D = X.D ∧ (X.planN e n).happened = X.happened ∧ (X.planN e n).marks = X.marks
  | 0 => ⟨rfl, rfl, rfl⟩
  | n + 1 => by
    obtain ⟨h1, h2, h3⟩ := planN_D X e n
    obtain ⟨k1, k2, k3⟩ := plan_D (X.planN e n) e
    exact ⟨k1.trans h1, k2.trans h2, k3.trans h3⟩
theorem times_le (off : Int) : times off ≤ 300 := by unfold times; omega
theorem Good.two {m : Nat} {X : Dr} (h : X.Good m) : X.Good2 m 0 := ⟨h.ok, h.fit, h.srt, h.cnt, h.mks⟩
theorem Good2.one {m k : Nat} {X : Dr} (h : X.Good2 m k) (hk : k ≤ 300) : X.Good (m + 1) := ⟨h.ok.mono (by omega), h.fit, h.srt, by have := h.cnt; omega, h.mks⟩
theorem Good.play {m : Nat} {X : Dr} (h : X.Good m) (hm : m < 200) {p : OpP} (hp : p.Fits) : (X.play p).Good (m + 1) ∧ X.D.Like (X.play p).D := by
  obtain ⟨hb, hbl, -⟩ := h.begin hm p.o.zone
  obtain ⟨hd, hdl, -⟩ := h.due hm
  unfold Dr.play
  split
  · obtain ⟨k1, k2⟩ := Dv.append_ok hb.ok p.o.zone p.o.s
    refine ⟨hb.dev k1 ?_, hbl.trans k2⟩
    split
    · exact mks_upd hb.mks _ _
    · exact hb.mks
  split
  · obtain ⟨k1, k2⟩ := Dv.read_ok hb.ok p.o.zone p.o.off
    exact ⟨hb.dev k1 hb.mks, hbl.trans k2⟩
  split
  · obtain ⟨k1, k2⟩ := Dv.reset_ok hb.ok p.o.zone
    refine ⟨hb.dev k1 ?_, hbl.trans k2⟩
    split
    · exact mks_forget hb.mks _ _ _
    · exact hb.mks
  split
  · obtain ⟨k1, k2⟩ := Dv.finish_ok hb.ok p.o.zone
    exact ⟨hb.dev k1 hb.mks, hbl.trans k2⟩
  split
  · obtain ⟨k1, k2⟩ := Dv.flush_ok hd.ok
    exact ⟨hd.dev k1 hd.mks, hdl.trans k2⟩
  split
  · obtain ⟨k1, k2⟩ := Dv.revive_ok h.ok p.o.keep
    exact ⟨h.dev (k1.mono (by omega)) (mks_rev h.mks _ _), k2⟩
  split
  · refine ⟨(h.two.plan hp.ev).one (by omega), ?_⟩
    rw [(plan_D X p.e).1]; exact .refl _
  split
  · refine ⟨(h.two.planN hp.ev _).one (times_le _), ?_⟩
    rw [(planN_D X p.e _).1]; exact .refl _
  · exact ⟨h.mono (by omega), .refl _⟩
theorem Good.made (k : Nat) (size op : Int) : (DV.Dr.made k size op).Good 0 := by
  refine ⟨⟨Nat.le_refl _, fun x hx => ?_⟩, fun e he => by simp [DV.Dr.made] at he, by simp [DV.Dr.made, Sorted8], by simp [DV.Dr.made], fun z o => by simp [DV.Dr.made, Marks.none]⟩
  have := List.eq_of_mem_replicate (show x ∈ List.replicate k (Zn.new size) from hx)
  subst this
  exact ⟨Nat.le_refl _, Nat.le_refl _, by simp [Zn.new], rfl⟩
/-- As many steps of a play as k. -/
def playTo (X : Dr) (ps : List OpP) (k : Nat) : Dr := (ps.take k).foldl play X
theorem playTo_zero (X : Dr) (ps : List OpP) : X.playTo ps 0 = X := rfl
theorem playTo_succ (X : Dr) (ps : List OpP) (k : Nat) (hk : k < ps.length) : X.playTo ps (k + 1) = (X.playTo ps k).play ps[k] := by
  unfold playTo
  rw [List.take_succ_eq_append_getElem hk, List.foldl_append]
  rfl
theorem Good.playTo {m : Nat} {X : Dr} (h : X.Good m) {ps : List OpP} (hp : ∀ p ∈ ps, p.Fits) : ∀ k, k ≤ ps.length → m + k < 200 → (X.playTo ps k).Good (m + k) ∧ X.D.Like (X.playTo ps k).D
  | 0, _, _ => ⟨h, .refl _⟩
  | k + 1, hk, hm => by
    obtain ⟨h1, h2⟩ := Good.playTo h hp k (by omega) (by omega)
    obtain ⟨h3, h4⟩ := h1.play (by omega) (hp _ (List.getElem_mem (show k < ps.length by omega)))
    rw [playTo_succ X ps k (by omega)]
    exact ⟨h3, h2.trans h4⟩
end Dr
end Go.Proofs.Ytdinbhanekpjoaa
