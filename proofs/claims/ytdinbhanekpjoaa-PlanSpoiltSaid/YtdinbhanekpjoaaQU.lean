/-
  The walk of PlanSpoilt: it answers true, and nothing that was there has turned.
-/
import Derived.Test.YtdinbhanekpjoaaQT
import Derived.Deep.QuietTactic
import Derived.BigQuiet
import Derived.ProofKit
namespace Go.Proofs.Ytdinbhanekpjoaa
open Go.RowKit Go.Shelf

attribute [local go_sem] Oper.semAt_some

namespace Sp
/-- The activations between two rounds: of the loop over steps, of the loop over zones; and behind a zone's length. -/
def outFrame (rb bd gb bx : Nat) (A1 : Option Addr) (m cap1 k n : Nat) (Ds : List Nat) (v : Nat → Value) : Act := { tmps := #[.int .i64 (n : Int), v 1, v 2, v 3, v 4, v 5, v 6, v 7, .pointer (some ⟨rb, 0, none⟩), .pointer (some ⟨bd, 0, none⟩), .pointer (some ⟨gb, 0, none⟩), v 11, .pointer (some ⟨bx, 0, none⟩), v 13, v 14, v 15, v 16, v 17, v 18, v 19, v 20, v 21, v 22, v 23, v 24, v 25, v 26, v 27, v 28, v 29, v 30, v 31, v 32, v 33, v 34, v 35, v 36, v 37, v 38, v 39, v 40, v 41, .slice A1 m cap1, .int .i64 (m : Int), .int .i64 (k : Int), v 45, v 46, v 47, v 48, v 49, v 50, v 51, v 52, v 53, v 54, v 55, v 56, v 57, v 58, v 59, v 60, v 61, v 62, v 63, v 64, v 65, v 66, v 67, v 68, v 69, v 70, v 71, v 72, v 73, v 74, v 75, v 76, v 77, v 78, v 79, v 80, v 81, v 82, v 83, v 84, v 85, v 86, v 87, v 88, v 89, v 90, v 91, v 92, v 93, v 94, v 95, v 96, v 97, v 98, v 99, v 100, v 101, v 102, v 103, v 104, v 105, v 106, v 107, v 108, v 109, v 110, v 111, v 112, v 113, v 114, v 115, v 116, v 117, v 118, v 119, v 120, v 121, v 122, v 123, v 124, v 125, v 126, v 127, v 128, v 129, v 130, v 131, v 132, v 133, v 134, v 135, v 136, v 137, v 138, v 139, v 140, v 141, v 142], defers := Ds.map ItS.mark }
def inFrame (rb bd gb bx ob : Nat) (A1 : Option Addr) (m cap1 k n j : Nat) (Ds : List Nat) (v : Nat → Value) : Act := { tmps := #[.int .i64 (n : Int), v 1, v 2, v 3, v 4, v 5, v 6, v 7, .pointer (some ⟨rb, 0, none⟩), .pointer (some ⟨bd, 0, none⟩), .pointer (some ⟨gb, 0, none⟩), v 11, .pointer (some ⟨bx, 0, none⟩), v 13, .pointer (some ⟨ob, 0, none⟩), v 15, v 16, v 17, v 18, v 19, v 20, v 21, v 22, v 23, v 24, v 25, v 26, v 27, v 28, v 29, v 30, v 31, v 32, v 33, v 34, v 35, v 36, v 37, v 38, v 39, v 40, v 41, .slice A1 m cap1, .int .i64 (m : Int), .int .i64 (k : Int), v 45, v 46, v 47, v 48, v 49, v 50, v 51, v 52, v 53, v 54, v 55, v 56, .int .i64 (n : Int), .int .i64 (j : Int), v 59, v 60, v 61, v 62, v 63, v 64, v 65, v 66, v 67, v 68, v 69, v 70, v 71, v 72, v 73, v 74, v 75, v 76, v 77, v 78, v 79, v 80, v 81, v 82, v 83, v 84, v 85, v 86, v 87, v 88, v 89, v 90, v 91, v 92, v 93, v 94, v 95, v 96, v 97, v 98, v 99, v 100, v 101, v 102, v 103, v 104, v 105, v 106, v 107, v 108, v 109, v 110, v 111, v 112, v 113, v 114, v 115, v 116, v 117, v 118, v 119, v 120, v 121, v 122, v 123, v 124, v 125, v 126, v 127, v 128, v 129, v 130, v 131, v 132, v 133, v 134, v 135, v 136, v 137, v 138, v 139, v 140, v 141, v 142], defers := Ds.map ItS.mark }
def zFrame (rb bd gb bx ob bz : Nat) (A1 : Option Addr) (m cap1 k n j len : Nat) (Ds : List Nat) (v : Nat → Value) : Act := { tmps := #[.int .i64 (n : Int), v 1, v 2, v 3, v 4, v 5, v 6, v 7, .pointer (some ⟨rb, 0, none⟩), .pointer (some ⟨bd, 0, none⟩), .pointer (some ⟨gb, 0, none⟩), v 11, .pointer (some ⟨bx, 0, none⟩), v 13, .pointer (some ⟨ob, 0, none⟩), .pointer (some ⟨bz, 0, none⟩), .int .i64 (len : Int), v 17, v 18, v 19, v 20, v 21, v 22, v 23, v 24, v 25, v 26, v 27, v 28, v 29, v 30, v 31, v 32, v 33, v 34, v 35, v 36, v 37, v 38, v 39, v 40, v 41, .slice A1 m cap1, .int .i64 (m : Int), .int .i64 (k : Int), v 45, v 46, v 47, v 48, v 49, v 50, v 51, v 52, v 53, v 54, v 55, v 56, .int .i64 (n : Int), .int .i64 (j : Int), v 59, v 60, v 61, v 62, v 63, v 64, v 65, v 66, v 67, v 68, v 69, v 70, v 71, v 72, v 73, v 74, v 75, v 76, v 77, v 78, v 79, v 80, v 81, v 82, v 83, v 84, v 85, v 86, v 87, v 88, v 89, v 90, v 91, v 92, v 93, v 94, v 95, v 96, v 97, v 98, v 99, v 100, v 101, v 102, v 103, v 104, v 105, v 106, v 107, v 108, v 109, v 110, v 111, v 112, v 113, v 114, v 115, v 116, v 117, v 118, v 119, v 120, v 121, v 122, v 123, v 124, v 125, v 126, v 127, v 128, v 129, v 130, v 131, v 132, v 133, v 134, v 135, v 136, v 137, v 138, v 139, v 140, v 141, v 142], defers := Ds.map ItS.mark }
/-- The activation of the innermost loop's body. -/
def secFrame (rb bd gb bx bz i g9 : Nat) (v : Nat → Value) : Act := { tmps := #[v 0, v 1, v 2, v 3, v 4, v 5, v 6, v 7, .pointer (some ⟨rb, 0, none⟩), .pointer (some ⟨bd, 0, none⟩), .pointer (some ⟨gb, 0, none⟩), v 11, .pointer (some ⟨bx, 0, none⟩), v 13, v 14, .pointer (some ⟨bz, 0, none⟩), v 16, .int .i64 (i : Int), .pointer (some ⟨g9, 0, none⟩), v 19, v 20, v 21, v 22, v 23, v 24, v 25, v 26, v 27, v 28, v 29, v 30, v 31, v 32, v 33, v 34, v 35, v 36, v 37, v 38, v 39, v 40, v 41, v 42, v 43, v 44, v 45, v 46, v 47, v 48, v 49, v 50, v 51, v 52, v 53, v 54, v 55, v 56, v 57, v 58, v 59, v 60, v 61, v 62, v 63, v 64, v 65, v 66, v 67, v 68, v 69, v 70, v 71, v 72, v 73, v 74, v 75, v 76, v 77, v 78, v 79, v 80, v 81, v 82, v 83, v 84, v 85, v 86, v 87, v 88, v 89, v 90, v 91, v 92, v 93, v 94, v 95, v 96, v 97, v 98, v 99, v 100, v 101, v 102, v 103, v 104, v 105, v 106, v 107, v 108, v 109, v 110, v 111, v 112, v 113, v 114, v 115, v 116, v 117, v 118, v 119, v 120, v 121, v 122, v 123, v 124, v 125, v 126, v 127, v 128, v 129, v 130, v 131, v 132, v 133, v 134, v 135, v 136, v 137, v 138, v 139, v 140, v 141, v 142], defers := [] }
/-- The law's own blocks. -/
def Mine (rb bd bx bw : Nat) (Ds : List Nat) (B Z : Nat → Prop) (b : Nat) : Prop := b = rb ∨ b = bd ∨ b = bx ∨ b = bw ∨ b ∈ Ds ∨ B b ∨ Z b
/-- What a round keeps. -/
structure Inv (w : World) (rb bd bx bw gb q d n : Nat) (X : Dr) (U : Nat → List Sec) (Ds : List Nat) (B Z : Nat → Prop) (wr : World) : Prop where
  rel : Rel8 w (Mine rb bd bx bw Ds B Z) gb q d X wr
  res : Blk wr rb 4 #[.bool false]
  box : Blk wr bd 59 #[.pointer (some ⟨q, 0, none⟩)]
  sl : Blk wr bx 79 #[.slice (some ⟨bw, 0, none⟩) n n]
  rows : Wr wr bw n U B
  marks : ∀ D ∈ Ds, wr.heap[D]? = some (.deferred (some [])) ∧ rb < D
  nodup : Ds.Nodup
  ge : w.heap.size ≤ bw
section
variable {w wr w' : World} {rb bd bx bw gb q d n : Nat} {X : Dr} {U U' : Nat → List Sec} {Ds : List Nat} {B B' Z : Nat → Prop}
theorem Inv.below (h : Inv w rb bd bx bw gb q d n X U Ds B Z wr) (hb : Below wr.heap.size wr w') : Inv w rb bd bx bw gb q d n X U Ds B Z w' :=
  ⟨h.rel.below hb, (hb.block _ h.res.lt).trans h.res, (hb.block _ h.box.lt).trans h.box, (hb.block _ h.sl.lt).trans h.sl, h.rows.below hb, fun D hD => by
    have h9 := h.marks D hD
    exact ⟨(hb.block D (Array.getElem?_eq_some_iff.1 h9.1).1).trans h9.1, h9.2⟩, h.nodup, h.ge⟩
theorem Inv.wrote (h : Inv w rb bd bx bw gb q d n X U Ds B Z wr) (hm : Mods (fun b => b = bw) wr w') (hr : Wr w' bw n U' B') (hB : ∀ g, B' g → B g ∨ (wr.heap.size ≤ g ∧ g < w'.heap.size)) : Inv w rb bd bx bw gb q d n X U' Ds B' Z w' := by
  obtain ⟨cs, hn, hbw, _⟩ := h.rows
  refine ⟨h.rel.grow hm (.inr (.inr (.inr (.inl rfl)))) h.ge (fun k hk => ?_), h.res.mods hm (h.res.ne_type hbw (by decide)), h.box.mods hm (h.box.ne_type hbw (by decide)), h.sl.mods hm (h.sl.ne_type hbw (by decide)), hr, fun D hD => ?_, h.nodup, h.ge⟩
  · rcases hk with h1 | h1 | h1 | h1 | h1 | h1 | h1
    · exact .inl (.inl h1)
    · exact .inl (.inr (.inl h1))
    · exact .inl (.inr (.inr (.inl h1)))
    · exact .inl (.inr (.inr (.inr (.inl h1))))
    · exact .inl (.inr (.inr (.inr (.inr (.inl h1)))))
    · rcases hB k h1 with h2 | h2
      · exact .inl (.inr (.inr (.inr (.inr (.inr (.inl h2))))))
      · exact .inr h2
    · exact .inl (.inr (.inr (.inr (.inr (.inr (.inr h1))))))
  · have h9 := h.marks D hD
    refine ⟨(hm.block D (Array.getElem?_eq_some_iff.1 h9.1).1 (fun e => ?_)).trans h9.1, h9.2⟩
    have h2 : wr.heap[bw]? = some (.cells cs 47 (0, 0)) := hbw
    rw [← e, h9.1] at h2
    cases h2
end
/-- A post for a piece of a walk. -/
def Post (R : Act → World → Prop) : Exit → Act → World → Prop
  | .normal, a, w => R a w
  | _, _, _ => False
theorem wp_piece {P : Program} {c : Code} {Q : Exit → Act → World → Prop} {a : Act} {w : World} (R : Act → World → Prop) (h : c.wp P (Post R) a w) (hR : ∀ a w, R a w → Q .normal a w) : c.wp P Q a w :=
  Code.wp_mono (fun e a w h => by cases e <;> first | exact hR a w h | exact (h : False).elim) h
theorem Post.normal {R : Act → World → Prop} {a : Act} {w : World} (h : R a w) : Post R .normal a w := h
/-- Behind the rows' growth: the frame, and what holds. -/
def Grown (w : World) (rb bd gb bx bw ob bz q d n : Nat) (A1 : Option Addr) (m cap1 k j len : Nat) (X : Dr) (Y : Nat → List Sec) (Ds : List Nat) (oc : Array Value) (a : Act) (w' : World) : Prop :=
  ∃ B', a = zFrame rb bd gb bx ob bz A1 m cap1 k n j len Ds (fun i => a.tmps.getD i undef) ∧ Inv w rb bd bx bw gb q d n X Y Ds B' (fun b => b = ob) w' ∧ Blk w' ob 68 oc ∧ Blk w' bz 3 #[.int .i64 (j : Int)]
end Sp
open Sp
set_option maxRecDepth 100000 in
set_option maxHeartbeats 4000000 in
theorem spoilt8_walk (n : Nat) (size op : Int) (A1 : Option Addr) (cap1 : Nat) (ps : List OpP) (w : World) (h1 : CameOps8 w A1 ps) (hz1 : 1 ≤ n) (hz2 : n ≤ 40) (hs1 : 1 ≤ size) (hs2 : size ≤ 64) (ho1 : 1 ≤ op) (ho2 : op ≤ 64) (hn1 : ps.length ≤ 60) (hby : ∀ p ∈ ps, p.o.s.Byte) :
    Calls Try.prog 11 #[.int .i64 (n : Int), .int .i64 size, .int .i64 op, .slice A1 ps.length cap1] w fun e w' => e = .returned (.bool true) ∧ Below w.heap.size w w' := by
  have h1' := hide h1
  have Hby := hide hby
  have Hst := hide (fun w => started_yes n size op w hz1 hz2 hs1 hs2 ho1 ho2)
  have Hfits := hide (fun p (hp : p ∈ ps) => (h1.1 p hp).2.2)
  have Hsz := hide hs2
  have d3 : decide (60 < ps.length) = false := decide_eq_false (by omega)
  have d4 : decide ((60 : Int) < (ps.length : Int)) = false := decide_eq_false (by omega)
  have Hsz1 := hide hs1
  have Hn1 := hide hn1
  have Hz := hide (And.intro hz1 hz2)
  clear h1 hby hs1 hs2 ho1 ho2 hn1 hz1 hz2
  refine ItS.calls_of_wp_marks Try.func11 rfl ?_
  simp only [Try.ntmps11, List.size_toArray, List.length_cons, List.length_nil, Nat.reduceAdd, Nat.reduceSub, Array.replicate_succ, Array.replicate_zero, List.push_toArray, List.append_toArray, List.nil_append, List.cons_append]
  go_upto_region 1 with (fail)
  have hb0 : Below w.heap.size w (w.alloc (.cells #[.bool false] 4)) := (Below.refl _ w).alloc (Nat.le_refl _) _
  have kb := Blk.new w 4 #[.bool false]
  generalize w.alloc _ = w0 at hb0 kb ⊢
  have Hb0 := hide hb0
  have Kb := hide kb
  clear hb0 kb
  go_wp2_with fail
  refine (anchor8_any _).mono ?_
  rintro e w1 ⟨rfl, hb1⟩
  have Hb1 := hide (Hb0.out.trans (hb1.mono Hb0.out.size))
  have kb1 : Blk w1 w.heap.size 4 _ := (hb1.block _ Kb.out.lt).trans Kb.out
  have Kb1 := hide kb1
  clear hb1 kb1 Kb Hb0
  go_wp2_with fail
  refine (Hst.out _).mono ?_
  rintro e w2 ⟨q, d, A', c', rfl, hbeg⟩
  have kb2 : Blk w2 w.heap.size 4 _ := (hbeg.choose_spec.choose_spec.choose_spec.2.1.block _ Kb1.out.lt).trans Kb1.out
  have Kb2 := hide kb2
  have Hbeg := hide hbeg
  clear hbeg Hst kb2
  unfold agg8
  go_upto_region 6 with (fail)
  have hrel0 := Rel8.start3 (w := w) Hb1.out Hbeg.out (.cells #[.pointer (some ⟨q, 0, none⟩)] 59)
  have kbI := (Kb2.out.alloc (.cells #[.pointer (some ⟨q, 0, none⟩)] 59)).alloc (.cells #[.slice A' (DV.Dr.made n size op).D.zs.length c', .int .i64 (DV.Dr.made n size op).D.size, .int .i64 (DV.Dr.made n size op).D.op, .int .i64 ((DV.Dr.made n size op).D.n : Int), .bool (DV.Dr.made n size op).D.down, .slice none (DV.Dr.made n size op).coming.length 0, .slice none (DV.Dr.made n size op).happened.length 0] 62)
  have kdI := (Blk.new w2 59 #[.pointer (some ⟨q, 0, none⟩)]).alloc (.cells #[.slice A' (DV.Dr.made n size op).D.zs.length c', .int .i64 (DV.Dr.made n size op).D.size, .int .i64 (DV.Dr.made n size op).D.op, .int .i64 ((DV.Dr.made n size op).D.n : Int), .bool (DV.Dr.made n size op).D.down, .slice none (DV.Dr.made n size op).coming.length 0, .slice none (DV.Dr.made n size op).happened.length 0] 62)
  have hrbw : w.heap.size < w1.heap.size := Kb1.out.lt
  have hrbd : w.heap.size < w2.heap.size := Kb2.out.lt
  have Hgd0 := hide (Dr.Good.made n size op)
  have Hspo0 := hide (Dr.Spo.made n size op Hsz1.out)
  have Hlen0 : Hid ((DV.Dr.made n size op).D.zs.length = n) := hide (by simp [DV.Dr.made, Dv.made])
  have Hsz0 : Hid ((DV.Dr.made n size op).D.size ≤ 64 ∧ 1 ≤ (DV.Dr.made n size op).D.size) := hide ⟨Hsz.out, Hsz1.out⟩
  generalize DV.Dr.made n size op = X0 at hrel0 kbI kdI Hgd0 Hspo0 Hlen0 Hsz0 ⊢
  have hrel1 := hrel0.sub3 (E' := fun b => b = w.heap.size ∨ b = w2.heap.size) (fun k hk => by
    rcases hk with rfl | rfl
    · exact .inl ⟨Nat.le_refl _, hrbw⟩
    · exact .inr rfl)
  clear Hbeg Hb1 Hsz Hsz1 Kb1 Kb2 hrel0 hrbw
  generalize (w2.alloc _).alloc _ = wI at hrel1 kbI kdI ⊢
  obtain ⟨gb, hgb⟩ : ∃ b, b = w2.heap.size + 1 := ⟨_, rfl⟩
  rw [← hgb] at hrel1 ⊢
  obtain ⟨bd, hbd⟩ : ∃ b, b = w2.heap.size := ⟨_, rfl⟩
  rw [← hbd] at hrel1 kdI hrbd ⊢
  clear hgb hbd
  obtain ⟨rb, hrb⟩ : ∃ b, b = w.heap.size := ⟨_, rfl⟩
  rw [← hrb] at hrel1 kbI hrbd ⊢
  have Hrb := hide hrb
  have Hrbd := hide hrbd
  have Hrel1 := hide hrel1
  have KbI := hide kbI
  have KdI := hide kdI
  have hmk := fun w => run_make_rows n (show n ≤ 40 from Hz.out.2) w
  clear hrb hrel1 kbI kdI hrbd
  go_upto_region 7 with (fail)
  have hbm : Below wI.heap.size wI ((wI.alloc (.cells (madeCells #[.slice none 0 0] n) 47)).alloc (.cells #[.slice (some ⟨wI.heap.size, 0, none⟩) n n] 79)) := ((Below.refl _ wI).alloc (Nat.le_refl _) _).alloc (by simp) _
  have hrw := (Wr.made wI n (fun _ => False)).below ((Below.refl _ _).alloc (Nat.le_refl _) (.cells #[.slice (some ⟨wI.heap.size, 0, none⟩) n n] 79))
  have kx := Blk.new (wI.alloc (.cells (madeCells #[.slice none 0 0] n) 47)) 79 #[.slice (some ⟨wI.heap.size, 0, none⟩) n n]
  rw [World.size_alloc] at kx
  have hsI : ((wI.alloc (.cells (madeCells #[.slice none 0 0] n) 47)).alloc (.cells #[.slice (some ⟨wI.heap.size, 0, none⟩) n n] 79)).heap.size = wI.heap.size + 2 := by rw [World.size_alloc, World.size_alloc]
  generalize (wI.alloc (.cells (madeCells #[.slice none 0 0] n) 47)).alloc (.cells #[.slice (some ⟨wI.heap.size, 0, none⟩) n n] 79) = wJ at hbm hrw kx hsI ⊢
  have hinv0 : Inv w rb bd (wI.heap.size + 1) wI.heap.size gb q d n (X0.playTo ps 0) (fun _ => []) [] (fun _ => False) (fun _ => False) wJ := by
    refine ⟨Hrel1.out.more (fun b hb => ?_) hbm, (hbm.block _ KbI.out.lt).trans KbI.out, (hbm.block _ KdI.out.lt).trans KdI.out, kx, hrw, fun D hD => absurd hD (by simp), List.nodup_nil, Hrel1.out.world.size⟩
    rcases hb with h | h | h | h | h | h | h
    · exact .inl (.inl h)
    · exact .inl (.inr h)
    · exact .inr ⟨by omega, by omega⟩
    · exact .inr ⟨by omega, by omega⟩
    · simp at h
    · exact h.elim
    · exact h.elim
  clear hbm hrw kx hsI hmk Hrel1 KbI KdI
  obtain ⟨bx, hbx⟩ : ∃ b, b = wI.heap.size + 1 := ⟨_, rfl⟩
  rw [← hbx] at hinv0 ⊢
  obtain ⟨bw, hbw⟩ : ∃ b, b = wI.heap.size := ⟨_, rfl⟩
  rw [← hbw] at hinv0
  clear hbx hbw
  have Hinv0 := hide hinv0
  clear hinv0
  go_wp2_with fail
  rename_i hK
  refine wp_loop (fun a wr => ∃ (k : Nat) (Ds : List Nat) (U : Nat → List Sec) (B : Nat → Prop), a = outFrame rb bd gb bx A1 ps.length cap1 k n Ds (fun i => a.tmps.getD i undef) ∧ k ≤ ps.length ∧ Inv w rb bd bx bw gb q d n (X0.playTo ps k) U Ds B (fun _ => False) wr ∧ (X0.playTo ps k).Spo U)
    (fun a _ => ps.length - (intOf (a.tmps.getD 44 undef)).toNat) ⟨0, [], _, _, rfl, Nat.zero_le _, Hinv0.out, Hspo0.out⟩ ?_
  rintro a wr ⟨k, Ds, U, B, ha, hk, hI, hspo⟩
  generalize (fun i => a.tmps.getD i undef) = v at ha
  subst ha
  unfold outFrame
  clear Hinv0
  have HI := hide hI
  obtain ⟨hgk, hlk⟩ := Dr.Good.playTo Hgd0.out Hfits.out k hk (by have := Hn1.out; omega)
  rw [Nat.zero_add] at hgk
  have Hsucc := hide (fun h : k < ps.length => Dr.playTo_succ X0 ps k h)
  generalize hXk : X0.playTo ps k = X at HI Hsucc hgk hlk hspo hI
  have HGd := hide hgk
  have HSpo := hide hspo
  have Hlen : Hid (X.D.zs.length = n) := hide (hlk.len.trans Hlen0.out)
  have HszX : Hid (X.D.size ≤ 64 ∧ 1 ≤ X.D.size) := hide (by rw [hlk.size]; exact Hsz0.out)
  clear hgk hlk hI hXk hspo
  by_cases hlt : k < ps.length
  · clear hK
    obtain ⟨ab, off, rfl, hab, hck⟩ := (h1'.out.below HI.out.rel.world).2 (by omega)
    have Hck := hide (hck k hlt)
    have HZ := hide (Blk.new wr 68 OpP.zero.cells.toArray)
    have hba : Below wr.heap.size wr ((wr.alloc (.cells OpP.zero.cells.toArray 68)).setRow wr.heap.size ps[k].cells.toArray) := below_setRow ((Below.refl _ wr).alloc (Nat.le_refl _) _) (Nat.le_refl _) _
    have hko := HZ.out.setRow ps[k].cells.toArray
    have hmem : ps[k] ∈ ps := List.getElem_mem hlt
    have Hci := hide (h1'.out.1 _ hmem)
    have Hs1 := hide (Hsucc.out hlt)
    have HbyK := hide (Hby.out _ hmem)
    clear hck hmem Hsucc
    go_upto_region 10 with (first | ((with_reducible refine wpList_load_mid ?g1 68 (.tmp 46) ?o1 ab (off + k * 136) ?x1 ps[k].cells ?d1 ?r1 ?u1 ?f1 ?i1 ?_); (case g1 => exact rfl); (case o1 => exact rfl); (case x1 => exact rfl); (case r1 => exact Hck.out); (case u1 => exact Try.underlying68); (case f1 => exact rfl); (case i1 => exact sizeOp8 _)) | ((with_reducible refine wpList_store_row ?g2 68 (.tmp 14) (.tmp 47) ?o2 wr.heap.size ps[k].cells.toArray ?x2 ?y2 68 OpP.zero.cells.toArray ?k2 ?s2 ?l2 ?a2 ?_); (case g2 => exact rfl); (case o2 => exact rfl); (case x2 => exact rfl); (case y2 => exact rfl); (case k2 => exact HZ.out); (case s2 => exact sizeOp8R _); (case l2 => simp [OpP.length]); (case a2 => exact OpP.all _)))
    generalize hWA : World.setRow (World.alloc wr _) _ _ = wa
    have hWA' : (wr.alloc (.cells OpP.zero.cells.toArray 68)).setRow wr.heap.size ps[k].cells.toArray = wa := hWA
    rw [hWA'] at hba hko
    clear hWA hWA' HZ Hck
    have HRa := hide (HI.out.rel.more (E' := Mine rb bd bx bw Ds B (fun b => b = wr.heap.size)) (fun b hb => by
      rcases hb with h | h | h | h | h | h | h
      · exact .inl (.inl h)
      · exact .inl (.inr (.inl h))
      · exact .inl (.inr (.inr (.inl h)))
      · exact .inl (.inr (.inr (.inr (.inl h))))
      · exact .inl (.inr (.inr (.inr (.inr (.inl h)))))
      · exact .inl (.inr (.inr (.inr (.inr (.inr (.inl h))))))
      · exact .inr ⟨by omega, by have := hko.lt; omega⟩) hba)
    have KO := hide hko
    have Hba := hide hba
    have Kba : Hid (Blk wa rb 4 #[.bool false]) := hide ((hba.block _ HI.out.res.lt).trans HI.out.res)
    have Kda : Hid (Blk wa bd 59 #[.pointer (some ⟨q, 0, none⟩)]) := hide ((hba.block _ HI.out.box.lt).trans HI.out.box)
    have Kxa : Hid (Blk wa bx 79 #[.slice (some ⟨bw, 0, none⟩) n n]) := hide ((hba.block _ HI.out.sl.lt).trans HI.out.sl)
    have Wra := hide (HI.out.rows.below hba)
    have HDsa : Hid (∀ D ∈ Ds, wa.heap[D]? = some (.deferred (some [])) ∧ rb < D) := hide (fun D hD => by
      have h9 := HI.out.marks D hD
      exact ⟨(hba.block D (Array.getElem?_eq_some_iff.1 h9.1).1).trans h9.1, h9.2⟩)
    have Hnd := hide (And.intro HI.out.nodup HI.out.ge)
    obtain ⟨ob, hob⟩ : ∃ b, b = wr.heap.size := ⟨_, rfl⟩
    rw [← hob] at HRa KO ⊢
    clear hba hko hob
    obtain ⟨A', c', Ac', cc', Ah', ch', hgb, hstep⟩ := HRa.out.step HGd.out (by have := Hn1.out; omega) (by have := Hlen.out; have := Hz.out.2; omega) HszX.out.1 ps[k] Hci.out.2.2 Hci.out.1 Hci.out.2.1
    have HS := hide (hstep wa (Below.refl _ wa))
    have Hgb := hide hgb
    clear hstep hgb
    obtain ⟨a0, a1, a2, a3, a4, a5, a6, -⟩ := Hgb.out.seven
    have cd := Kda.out.cell 0
    unfold agg8 at HS
    go_wp2_with ((with_reducible refine wpList_load_mid ?g2 68 (.tmp 14) ?o2 ob (0) ?x2 ps[k].cells ?d2 ?r2 ?u2 ?f2 ?i2 ?_); (case g2 => exact rfl); (case o2 => exact rfl); (case x2 => exact rfl); (case r2 => exact range_op8 _ KO.out); (case u2 => exact Try.underlying68); (case f2 => exact rfl); (case i2 => exact sizeOp8 _))
    refine HS.out.mono ?_
    rintro e w3 ⟨A2, c2, Ac2, cc2, Ah2, ch2, rfl, hg3, hrel3, hm3⟩
    clear a0 a1 a2 a3 a4 a5 a6 HS cd
    have HG' := hide (HGd.out.play (by have := Hn1.out; omega) Hci.out.2.2).1
    have HL' := hide (HGd.out.play (by have := Hn1.out; omega) Hci.out.2.2).2
    obtain ⟨V, hV⟩ := HSpo.out.play HGd.out (by have := Hn1.out; omega) HszX.out.2 HbyK.out
    generalize hX' : X.play ps[k] = X' at hrel3 hm3 HG' HL' Hs1 hV ⊢
    have HV := hide hV
    have HszX' : Hid (X'.D.size ≤ 64 ∧ 1 ≤ X'.D.size) := hide (by rw [HL'.out.size]; exact HszX.out)
    have Hlen' : Hid (X'.D.zs.length = n) := hide (by rw [HL'.out.len]; exact Hlen.out)
    have HUlen : Hid (∀ i, i < n → ∃ h : i < X'.D.zs.length, V i = next (U i) X'.D.zs[i].L.length ps[k].o.s ∧ Ok1 X'.D.zs[i].L (X'.marks (i : Int)) (V i)) := hide (fun i hi => by
      have h : i < X'.D.zs.length := by rw [Hlen'.out]; exact hi
      have h2 : X'.D.zs[i]? = some X'.D.zs[i] := List.getElem?_eq_getElem h
      exact ⟨h, hV.2 i _ h2, hV.1.one i _ h2⟩)
    have Hr3 := hide (fun W hW => hrel3.cast (w1 := W) hW)
    have Hm3 := hide (fun W hW => Mods.castW hm3 (w1 := W) hW)
    obtain ⟨a0, a1, a2, a3, a4, a5, a6, f0, f1, f2, f3, f4, f5, f6⟩ := hg3.seven
    clear hg3 hrel3 hm3 hX' hV
    go_upto_region 11 with (fail)
    clear a0 a1 a2 a3 a4 a5 a6 f0 f1 f2 f3 f4 f5 f6
    generalize hW : World.setCell (World.setCell (World.setCell (World.setCell (World.setCell (World.setCell (World.setCell _ _ _) _ _) _ _) _ _) _ _) _ _) _ _ = w6
    have HR6 := hide (Hr3.out w6 hW)
    have HM6 := hide (Hm3.out w6 hW)
    clear hW Hr3 Hm3 Hgb
    have KO6 : Hid (Blk w6 ob 68 ps[k].cells.toArray) := hide (KO.out.mods HM6.out (fun h => h.1 (.inr (.inr (.inr (.inr (.inr (.inr rfl))))))))
    have Hinv6 : Hid (Inv w rb bd bx bw gb q d n X' U Ds B (fun b => b = ob) w6) := hide ⟨HR6.out, Kba.out.mods HM6.out (fun h => h.1 (.inl rfl)), Kda.out.mods HM6.out (fun h => h.1 (.inr (.inl rfl))), Kxa.out.mods HM6.out (fun h => h.1 (.inr (.inr (.inl rfl)))),
      Wra.out.mods HM6.out (fun h => h.1 (.inr (.inr (.inr (.inl rfl))))) (fun g hg h => h.1 (.inr (.inr (.inr (.inr (.inr (.inl hg))))))), fun D hD => by
        have h9 := HDsa.out D hD
        exact ⟨(HM6.out.block D (Array.getElem?_eq_some_iff.1 h9.1).1 (fun h => h.1 (.inr (.inr (.inr (.inr (.inl hD))))))).trans h9.1, h9.2⟩, Hnd.out.1, Hnd.out.2⟩
    clear HM6 KO HRa Hba Kba Kda Kxa Wra HDsa Hnd HI HR6
    go_wp2_with fail
    rename_i hK2
    refine wp_loop (fun a wr => ∃ (j : Nat) (Ds : List Nat) (U2 : Nat → List Sec) (B : Nat → Prop), a = inFrame rb bd gb bx ob (some ⟨ab, off, none⟩) ps.length cap1 k n j Ds (fun i => a.tmps.getD i undef) ∧ j ≤ n ∧ Inv w rb bd bx bw gb q d n X' U2 Ds B (fun b => b = ob) wr ∧ Blk wr ob 68 ps[k].cells.toArray ∧ (∀ i, i < j → U2 i = V i) ∧ ∀ i, j ≤ i → U2 i = U i)
      (fun a _ => n - (intOf (a.tmps.getD 58 undef)).toNat) ⟨0, Ds, U, B, rfl, Nat.zero_le _, Hinv6.out, KO6.out, fun i hi => absurd hi (Nat.not_lt_zero _), fun _ _ => rfl⟩ ?_
    clear Hinv6 KO6
    rintro a wr2 ⟨j, Ds2, U2, B2, ha, hj, hI2, hko2, hlo, hhi⟩
    generalize (fun i => a.tmps.getD i undef) = v2 at ha
    subst ha
    unfold inFrame
    have HI2 := hide hI2
    have KO2 := hide hko2
    have Hlo := hide (And.intro hlo hhi)
    clear hI2 hko2 hlo hhi
    by_cases hjn : j < n
    · clear hK2
      have hbz : Below wr2.heap.size wr2 (wr2.alloc (.cells #[.int .i64 (j : Int)] 3)) := (Below.refl _ wr2).alloc (Nat.le_refl _) _
      have kz := Blk.new wr2 3 #[.int .i64 (j : Int)]
      go_upto_region 16 with (fail)
      generalize wr2.alloc (.cells #[.int .i64 (j : Int)] 3) = wz at hbz kz ⊢
      have hz6 := kz.lt
      obtain ⟨bz, hbzz⟩ : ∃ b, b = wr2.heap.size := ⟨_, rfl⟩
      rw [← hbzz] at kz ⊢
      have HIz := hide (HI2.out.below hbz)
      have KOz : Hid (Blk wz ob 68 ps[k].cells.toArray) := hide ((hbz.block _ KO2.out.lt).trans KO2.out)
      have Kz := hide kz
      obtain ⟨hjX, hVj, hOkj⟩ := HUlen.out j hjn
      obtain ⟨F1, FD1, A1x, c1x, bs1, Fs1, mb1, n1, Ac1, cc1, Ah1, ch1, hd1⟩ := HIz.out.rel.drv
      have Hdev := hide (fun q2 => DV.device_any (hd1.drewN q2))
      have Hln := hide (fun q2 => DM.len_any (hd1.dev.drewN q2) (j : Int))
      rw [Dv.lenOf_in hjX] at Hln
      have hj65 : X'.D.zs[j].L.length < 65536 := (HG'.out.bd (by have := Hn1.out; omega)).zs _ (List.getElem_mem hjX)
      obtain ⟨Lj, hLj⟩ : ∃ L, L = X'.D.zs[j].L := ⟨_, rfl⟩
      rw [← hLj] at hVj hOkj Hln hj65
      have HVj := hide (And.intro hVj (And.intro hOkj (And.intro hLj hj65)))
      have cd := HIz.out.box.cell 0
      have cz := kz.cell 0
      clear hbz kz hbzz hd1 hVj hOkj hLj hj65 HI2 KO2 hz6
      go_quiet (first | (go_at_call 36; exact DM.quiet Hdev.out _) | (go_at_call 21; exact DM.quiet Hln.out _))
      have hbq : Below wz.heap.size wz (wz.drewN nq) := (Mods.refl (fun _ => False) wz).drewN nq |>.below (Nat.le_refl _) (fun _ h => h.elim)
      have HIy := hide (HIz.out.below hbq)
      have KOy : Hid (Blk (wz.drewN nq) ob 68 ps[k].cells.toArray) := hide KOz.out
      have Kzy : Hid (Blk (wz.drewN nq) bz 3 #[.int .i64 (j : Int)]) := hide Kz.out
      clear cd cz hbq Hdev Hln HIz KOz Kz
      generalize wz.drewN nq = wy at HIy KOy Kzy ⊢
      obtain ⟨A, c, cw, fw, hown, hBA⟩ := HIy.out.rows.at_ hjn
      have Hown := hide (And.intro hown hBA)
      have cx := HIy.out.sl.cell 0
      have cz := Kzy.out.cell 0
      have dj : decide (n ≤ j) = false := decide_eq_false (by omega)
      clear hown hBA
      go_upto_if 71 with (fail)
      obtain ⟨Y, hY⟩ : ∃ Y : Nat → List Sec, Y = fun i => if i = j then (if (U2 j).length < Lj.length then U2 j ++ [ps[k].o.s] else U2 j) else U2 i := ⟨_, rfl⟩
      have HY := hide hY
      clear hY
      refine Sp.wp_piece (Sp.Grown w rb bd gb bx bw ob bz q d n (some ⟨ab, off, none⟩) ps.length cap1 k j Lj.length X' Y Ds2 ps[k].cells.toArray) ?_ ?_
      · by_cases hgt : (U2 j).length < Lj.length
        · have dg : decide (((U2 j).length : Int) < (Lj.length : Int)) = true := decide_eq_true (by omega)
          have dg2 : decide ((U2 j).length < Lj.length) = true := decide_eq_true hgt
          have HgtY : Hid (Y j = U2 j ++ [ps[k].o.s] ∧ (∀ i, i ≠ j → Y i = U2 i)) := hide ⟨by rw [HY.out]; dsimp only; rw [if_pos rfl, if_pos hgt], fun i hi => by rw [HY.out]; dsimp only; rw [if_neg hi]⟩
          go_upto_region 18 with (fail)
          obtain ⟨i0, hi0, hz0, hz1, hz2⟩ := info_parts ZD.infoE
          have Hinfo := hide (And.intro hi0 (And.intro hz0 (And.intro hz1 hz2)))
          clear hi0 hz0 hz1 hz2
          obtain ⟨s0, hs0⟩ : ∃ s : Sec, s = ps[k].o.s := ⟨_, rfl⟩
          have hrs : wy.rangeAt ob 3 s0.cs := by rw [hs0]; exact (OpP.at_ KOy.out).2.2.2.2.1
          have hbwl : bw < wy.heap.size := HIy.out.rows.lt
          have hobl : ob < wy.heap.size := KOy.out.lt
          have hbxl : bx < wy.heap.size := HIy.out.sl.lt
          have hbzl : bz < wy.heap.size := Kzy.out.lt
          obtain ⟨csw, hcsn, hbwB, -⟩ := HIy.out.rows
          have hnx : bx ≠ bw := HIy.out.sl.ne_type hbwB (by decide)
          have hnz : bz ≠ bw := Kzy.out.ne_type hbwB (by decide)
          have hno : ob ≠ bw := KOy.out.ne_type hbwB (by decide)
          have HSany : Hid (∀ w', Below wy.heap.size wy w' → (w'.cell? ⟨bx, 0, none⟩ = some (.slice (some ⟨bw, 0, none⟩) n n) ∧ w'.cell? ⟨bz, 0, none⟩ = some (.int .i64 (j : Int)) ∧ w'.rangeAt ob 3 s0.cs)) := hide (fun w' hb => ⟨(hb.cell (p := ⟨bx, 0, none⟩) hbxl).trans cx, (hb.cell (p := ⟨bz, 0, none⟩) hbzl).trans cz, ItS.range_below hb hobl hrs⟩)
          have HSst : Hid (∀ w' u, Below wy.heap.size wy w' → ((w'.setCell ⟨bw, j, none⟩ u).cell? ⟨bx, 0, none⟩ = some (.slice (some ⟨bw, 0, none⟩) n n) ∧ (w'.setCell ⟨bw, j, none⟩ u).cell? ⟨bz, 0, none⟩ = some (.int .i64 (j : Int)) ∧ (w'.setCell ⟨bw, j, none⟩ u).rangeAt ob 3 s0.cs)) := hide (fun w' u hb => by
            obtain ⟨h1, h2, h3⟩ := HSany.out w' hb
            exact ⟨(World.cell?_setCell_far _ _ _ _ (fun e => hnx e.symm)).trans h1, (World.cell?_setCell_far _ _ _ _ (fun e => hnz e.symm)).trans h2, fun i v hv => (World.cell?_setCell_far _ _ _ _ (fun e => hno e.symm)).trans (h3 i v hv)⟩)
          have Hbwl := hide hbwl
          have Hcw := hide (And.intro cw fw)
          have hlen65 : (U2 j).length < 65536 := by have := HVj.out.2.2.2; omega
          have Hlen65 := hide hlen65
          have Hs0 := hide hs0
          have HBd : Hid (Below wy.heap.size wy wy.drew) := hide ((Below.refl _ wy).drew)
          clear hrs hobl hbxl hbzl hbwl hnx hnz hno hbwB hcsn csw cw fw hlen65 hs0 cx cz
          refine wp_region_noPanic ?_
          refine wp_region_held_drew (S := fun w' => w'.cell? ⟨bx, 0, none⟩ = some (.slice (some ⟨bw, 0, none⟩) n n) ∧ w'.cell? ⟨bz, 0, none⟩ = some (.int .i64 (j : Int)) ∧ w'.rangeAt ob 3 s0.cs) (by kernel_rfl) (HSany.out _ HBd.out) (fun hHeld => ?_)
          generalize wy.drew = wd at HBd hHeld ⊢
          refine wpAnyH_take (i := 0) (oi := ⟨_, _, _, _, _, _⟩) (v := ?_) rfl (by kernel_rfl) (by kernel_rfl) (by kernel_rfl) (fun _ _ _ h => h) (Or.inl ⟨by rfl, ?_⟩) hHeld ?_
          rotate_left
          · intro w' hS
            obtain ⟨x0, x1, x2⟩ := hS
            go_simp
            first | done | with_reducible rfl
          try simp only [Act.put, List.setIfInBounds_toArray, List.set_cons_zero, List.set_cons_succ]
          refine wpAnyH_take (i := 1) (oi := ⟨_, _, _, _, _, _⟩) (v := ?_) rfl (by kernel_rfl) (by kernel_rfl) (by kernel_rfl) (fun _ _ _ h => h) (Or.inl ⟨by rfl, ?_⟩) hHeld ?_
          rotate_left
          · intro w' hS
            obtain ⟨x0, x1, x2⟩ := hS
            go_simp
            first | done | with_reducible rfl
          try simp only [Act.put, List.setIfInBounds_toArray, List.set_cons_zero, List.set_cons_succ]
          refine wpAnyH_take (i := 3) (oi := ⟨_, _, _, _, _, _⟩) (v := ?_) rfl (by kernel_rfl) (by kernel_rfl) (by kernel_rfl) (fun _ _ _ h => h) (Or.inl ⟨by rfl, ?_⟩) hHeld ?_
          rotate_left
          · intro w' hS
            obtain ⟨x0, x1, x2⟩ := hS
            go_simp
            first | done | with_reducible rfl
          try simp only [Act.put, List.setIfInBounds_toArray, List.set_cons_zero, List.set_cons_succ]
          refine wpAnyH_take (i := 4) (oi := ⟨_, _, _, _, _, _⟩) (v := ?_) rfl (by kernel_rfl) (by kernel_rfl) (by kernel_rfl) (fun _ _ _ h => h) (Or.inl ⟨by rfl, ?_⟩) hHeld ?_
          rotate_left
          · intro w' hS
            obtain ⟨x0, x1, x2⟩ := hS
            go_simp
            first | done | with_reducible rfl
          try simp only [Act.put, List.setIfInBounds_toArray, List.set_cons_zero, List.set_cons_succ]
          refine wpAnyH_take (i := 5) (oi := ⟨_, _, _, _, _, _⟩) (v := ?_) rfl (by kernel_rfl) (by kernel_rfl) (by kernel_rfl) (fun _ _ _ h => h) (Or.inl ⟨by rfl, ?_⟩) hHeld ?_
          rotate_left
          · intro w' hS
            obtain ⟨x0, x1, x2⟩ := hS
            go_simp
            first | done | with_reducible rfl
          try simp only [Act.put, List.setIfInBounds_toArray, List.set_cons_zero, List.set_cons_succ]
          refine wpAnyH_take (i := 8) (oi := ⟨_, _, _, _, _, _⟩) (v := ?_) rfl (by kernel_rfl) (by kernel_rfl) (by kernel_rfl) (fun _ _ _ h => h) (Or.inl ⟨by rfl, ?_⟩) hHeld ?_
          rotate_left
          · intro w' hS
            obtain ⟨x0, x1, x2⟩ := hS
            go_simp
            first | done | with_reducible rfl
          try simp only [Act.put, List.setIfInBounds_toArray, List.set_cons_zero, List.set_cons_succ]
          refine wpAnyH_take (i := 9) (oi := ⟨_, _, _, _, _, _⟩) (v := .agg s0.cs.toArray) rfl (by kernel_rfl) (by kernel_rfl) (by kernel_rfl) (fun _ _ _ h => h) (Or.inl ⟨by rfl, fun w' hS => exec_load_row 34 (.tmp 80) rfl ob 3 rfl s0.cs _ hS.2.2 Try.underlying34 rfl (ZD.sizeSec _)⟩) hHeld ?_
          try simp only [Act.put, List.setIfInBounds_toArray, List.set_cons_zero, List.set_cons_succ]
          refine wpAnyH_ready (rs := [2, 6, 10]) (by kernel_rfl) (by simp) ?_
          refine AllReadyH.cons rfl (fun K hK => ?_) (AllReadyH.cons rfl (fun K hK => ?_) (AllReadyH.cons rfl (fun K hK => ?_) AllReadyH.nil))
          · go_simp
            have hbA : Below wd.heap.size wd (wd.alloc (.cells #[] 34)) := (Below.refl _ wd).alloc (Nat.le_refl _) _
            have hA0 : (wd.alloc (.cells #[] 34)).heap[wd.heap.size]? = some (.cells #[] 34 (0, 0)) := Blk.new wd 34 #[]
            have hg0 : wy.heap.size ≤ wd.heap.size := HBd.out.size
            have hl0 : wd.heap.size < (wd.alloc (.cells #[] 34)).heap.size := by rw [World.size_alloc]; omega
            generalize wd.alloc (.cells #[] 34) = u1 at hbA hA0 hl0 ⊢
            have HB1 : Hid (Below wy.heap.size wy u1) := hide (HBd.out.trans (hbA.mono HBd.out.size))
            clear hbA
            generalize wd.heap.size = g0_1 at hA0 hg0 hl0 ⊢
            have HZ1 := hide hA0
            have HL1 := hide (And.intro hg0 hl0)
            clear hA0 hg0 hl0
            refine hK.out _ _ (HSany.out _ HB1.out) (fun hHeld => ?_)
            clear hK K
            try simp only [Act.put, List.setIfInBounds_toArray, List.set_cons_zero, List.set_cons_succ]
            refine wpAnyH_ready (rs := [6, 10]) (by kernel_rfl) (by simp) ?_
            refine AllReadyH.cons rfl (fun K hK => ?_) (AllReadyH.cons rfl (fun K hK => ?_) AllReadyH.nil)
            · have cwn : u1.cell? ⟨bw, j, none⟩ = some (.slice A (U2 j).length c) := (HB1.out.cell (p := ⟨bw, j, none⟩) Hbwl.out).trans Hcw.out.1
              go_simp
              clear cwn
              refine hK.out _ _ (HSany.out _ HB1.out) (fun hHeld => ?_)
              clear hK K
              try simp only [Act.put, List.setIfInBounds_toArray, List.set_cons_zero, List.set_cons_succ]
              refine wpAnyH_ready (rs := [7, 10]) (by kernel_rfl) (by simp) ?_
              refine AllReadyH.cons rfl (fun K hK => ?_) (AllReadyH.cons rfl (fun K hK => ?_) AllReadyH.nil)
              · have hsrc := own_mods Hown.out.1 (Mods.of_below HB1.out (fun _ => False)) (fun _ _ h => h)
                refine step_append_src u1 rfl _ _ _ rfl 0 34 i0 _ 64 64 Try.underlying47 Hinfo.out.1 Hinfo.out.2.1 Hinfo.out.2.2.1 Hinfo.out.2.2.2 rfl (by omega) (.slice (some ⟨g0_1, 0, none⟩) 0 0) 0 [] rfl (own_zero HZ1.out) A (U2 j).length c ((U2 j).flatMap Sec.cs) rfl hsrc (flat_one _) (by have := Hlen65.out; unfold maxLen; omega) (by have := Hlen65.out; omega) (Nat.zero_le _) ?_
                intro v5 u3 hown5 hgrow5 hat5
                obtain ⟨A5_3, c5_3, rfl⟩ := own_form hown5
                simp only [Nat.zero_add, List.nil_append] at hown5
                rw [Nat.zero_add] at hat5 ⊢
                have HB3 : Hid (Below wy.heap.size wy u3) := hide (HB1.out.grown hgrow5 HB1.out.size (fun k hk => by simp [Value.ownBlock] at hk; have := HL1.out.1; omega))
                have hq5 : ∀ g, blkOf A5_3 = some g → wy.heap.size ≤ g := fun g hg => by
                  rw [← own_blkOf A5_3 (U2 j).length c5_3] at hg
                  have h1 := HB1.out.size
                  have h2 := HL1.out.1
                  rcases hat5 with h | h
                  · rw [h] at hg; simp [Value.ownBlock] at hg; omega
                  · rw [h] at hg; simp only [Option.some.injEq] at hg; omega
                have HW3 := hide (And.intro hown5 hq5)
                clear hsrc hown5 hgrow5 hat5 hq5
                refine hK.out _ _ (HSany.out _ HB3.out) (fun hHeld => ?_)
                clear hK K
                try simp only [Act.put, List.setIfInBounds_toArray]
                refine wpAnyH_ready (rs := [10]) (by kernel_rfl) (by simp) ?_
                refine AllReadyH.cons rfl (fun K hK => ?_) AllReadyH.nil
                · refine step_build1 rfl s0 (.tmp 81) rfl rfl ?_
                  have hbA : Below u3.heap.size u3 (u3.alloc (.cells s0.cs.toArray 34)) := (Below.refl _ u3).alloc (Nat.le_refl _) _
                  have hA1 : (u3.alloc (.cells s0.cs.toArray 34)).heap[u3.heap.size]? = some (.cells s0.cs.toArray 34 (0, 0)) := Blk.new u3 34 s0.cs.toArray
                  have hg1 : wy.heap.size ≤ u3.heap.size := HB3.out.size
                  have hl1 : u3.heap.size < (u3.alloc (.cells s0.cs.toArray 34)).heap.size := by rw [World.size_alloc]; omega
                  have hO5 : (u3.alloc (.cells s0.cs.toArray 34)).ownsRow 0 34 64 (.slice A5_3 (U2 j).length c5_3) (U2 j).length ((U2 j).flatMap Sec.cs) := own_mods HW3.out.1 (Mods.of_below hbA (fun _ => False)) (fun _ _ h => h)
                  have hq5 : ∀ g, blkOf A5_3 = some g → wy.heap.size ≤ g ∧ g ≠ u3.heap.size := fun g hg => ⟨HW3.out.2 g hg, by have := own_lt HW3.out.1 g (by rw [own_blkOf]; exact hg); omega⟩
                  generalize u3.alloc (.cells s0.cs.toArray 34) = u4 at hbA hA1 hl1 hO5 ⊢
                  have HB4 : Hid (Below wy.heap.size wy u4) := hide (HB3.out.trans (hbA.mono HB3.out.size))
                  clear hbA
                  generalize u3.heap.size = g1_4 at hA1 hg1 hl1 hq5 ⊢
                  have HO4 := hide hA1
                  have HM4 := hide (And.intro hg1 hl1)
                  clear hA1 hg1 hl1
                  have HP4 := hide (And.intro hO5 hq5)
                  clear hO5 hq5
                  refine hK.out _ _ (HSany.out _ HB4.out) (fun hHeld => ?_)
                  clear hK K
                  try simp only [Act.put]
                  refine wpAnyH_ready (rs := [11]) (by kernel_rfl) (by simp) ?_
                  refine AllReadyH.cons rfl (fun K hK => ?_) AllReadyH.nil
                  · refine step_append_src u4 rfl _ _ _ rfl 0 34 i0 _ 64 64 Try.underlying47 Hinfo.out.1 Hinfo.out.2.1 Hinfo.out.2.2.1 Hinfo.out.2.2.2 rfl (by omega) (.slice A5_3 (U2 j).length c5_3) (U2 j).length ((U2 j).flatMap Sec.cs) rfl HP4.out.1 (some ⟨g1_4, 0, none⟩) 1 1 s0.cs rfl (own_sec s0 HO4.out) s0.one (by have := Hlen65.out; unfold maxLen; omega) (by have := Hlen65.out; omega) (Nat.zero_le _) ?_
                    intro v6 u5 hown6 hgrow6 hat6
                    obtain ⟨A6_5, c6_5, rfl⟩ := own_form hown6
                    have hq5 : ∀ g, (Value.slice A5_3 (U2 j).length c5_3).ownBlock = some g → wy.heap.size ≤ g := fun g hg => (HP4.out.2 g (by rwa [own_blkOf] at hg)).1
                    have HB5 : Hid (Below wy.heap.size wy u5) := hide (HB4.out.grown hgrow6 HB4.out.size hq5)
                    have hq6 : ∀ g, blkOf A6_5 = some g → wy.heap.size ≤ g := fun g hg => by
                      rw [← own_blkOf A6_5 ((U2 j).length + 1) c6_5] at hg
                      have h1 := HB4.out.size
                      rcases hat6 with h | h
                      · rw [h] at hg; exact hq5 g hg
                      · rw [h] at hg; simp only [Option.some.injEq] at hg; omega
                    have HX5 := hide (And.intro hown6 hq6)
                    clear hown6 hgrow6 hat6 hq5 hq6
                    refine hK.out _ _ (HSany.out _ HB5.out) (fun hHeld => ?_)
                    clear hK K
                    try simp only [Act.put]
                    refine wpAnyH_take (i := 12) (oi := ⟨_, _, _, _, _, _⟩) (v := ?_) rfl (by kernel_rfl) (by kernel_rfl) (by kernel_rfl) (fun _ _ _ h => h) (Or.inl ⟨by rfl, ?_⟩) hHeld ?_
                    rotate_left
                    · intro w' hS
                      obtain ⟨x0, x1, x2⟩ := hS
                      go_simp
                      first | done | with_reducible rfl
                    try simp only [Act.put]
                    refine wpAnyH_ready (rs := [13]) (by kernel_rfl) (by simp) ?_
                    refine AllReadyH.cons rfl (fun K hK => ?_) AllReadyH.nil
                    · have cwn : u5.cell? ⟨bw, j, none⟩ = some (.slice A (U2 j).length c) := (HB5.out.cell (p := ⟨bw, j, none⟩) Hbwl.out).trans Hcw.out.1
                      have fwn : u5.frozen? ⟨bw, j, none⟩ = false := (HB5.out.frozen (p := ⟨bw, j, none⟩) Hbwl.out).trans Hcw.out.2
                      go_simp
                      clear cwn fwn
                      refine hK.out _ _ (HSst.out _ _ HB5.out) (fun hHeld => ?_)
                      clear hK K
                      obtain ⟨u6, hwn⟩ : ∃ u, u = u5.setCell ⟨bw, j, none⟩ (.slice A6_5 ((U2 j).length + 1) c6_5) := ⟨_, rfl⟩
                      rw [← hwn] at hHeld ⊢
                      have HE6 := hide hwn
                      clear hwn
                      try simp only [Act.put, List.setIfInBounds_toArray, List.set_cons_zero, List.set_cons_succ]
                      refine wpAnyH_done (by kernel_rfl) ?_ _
                      refine NoPanic.normal ?_
                      have Hfin : Hid (∃ B', Sp.Inv w rb bd bx bw gb q d n X' Y Ds2 B' (fun b => b = ob) u6 ∧ Blk u6 ob 68 ps[k].cells.toArray ∧ Blk u6 bz 3 #[.int .i64 (j : Int)]) := hide (by
                        have hb6 := HB5.out
                        have hown6 := HX5.out
                        have hm : Mods (fun b => b = bw) wy u6 := by rw [HE6.out]; exact (Mods.of_below hb6 (fun b => b = bw)).setCell (p := ⟨bw, j, none⟩) (.inl rfl) _
                        obtain ⟨csw, hcsn, hbwB, -⟩ := HIy.out.rows
                        have hrow : Wr u6 bw n (fun i => if i = j then U2 j ++ [s0] else U2 i) (fun g => B2 g ∨ (wy.heap.size ≤ g ∧ g < u6.heap.size)) := by
                          have hs7 : u5.heap.size ≤ u6.heap.size := by rw [HE6.out]; simp [World.setCell]
                          have h2 : ((U2 j ++ [s0]).flatMap Sec.cs) = (U2 j).flatMap Sec.cs ++ s0.cs := by simp
                          have h3 : (U2 j ++ [s0]).length = (U2 j).length + 1 := by simp
                          have hw := ((HIy.out.rows.below hb6).mono (B' := fun g => B2 g ∨ (wy.heap.size ≤ g ∧ g < u6.heap.size)) (fun g hg => .inl hg)).store (V := U2 j ++ [s0]) (A := A6_5) (c := c6_5) hjn (by rw [h2, h3]; exact hown6.1) (fun g hg => .inr ⟨hown6.2 g hg, by
                            have hl := own_lt hown6.1 g (by rw [own_blkOf]; exact hg)
                            omega⟩)
                          rw [h3] at hw
                          exact Eq.mp (congrArg (fun u => Wr u bw n (fun i => if i = j then U2 j ++ [s0] else U2 i) (fun g => B2 g ∨ (wy.heap.size ≤ g ∧ g < u6.heap.size))) HE6.out.symm) hw
                        refine ⟨_, HIy.out.wrote hm (hrow.congr (fun i _ => ?_)) (fun g hg => hg), KOy.out.mods hm (KOy.out.ne_type hbwB (by decide)), Kzy.out.mods hm (Kzy.out.ne_type hbwB (by decide))⟩
                        by_cases e : i = j
                        · rw [e, if_pos rfl, Hs0.out]; exact HgtY.out.1
                        · rw [if_neg e]; exact HgtY.out.2 i e)
                      clear hHeld
                      go_wp2_with fail
                      obtain ⟨B', hf1, hf2, hf3⟩ := Hfin.out
                      exact Sp.Post.normal (R := Sp.Grown w rb bd gb bx bw ob bz q d n (some ⟨ab, off, none⟩) ps.length cap1 k j Lj.length X' Y Ds2 ps[k].cells.toArray) ⟨B', rfl, hf1, hf2, hf3⟩
              · refine step_build1 rfl s0 (.tmp 81) rfl rfl ?_
                have hbA : Below u1.heap.size u1 (u1.alloc (.cells s0.cs.toArray 34)) := (Below.refl _ u1).alloc (Nat.le_refl _) _
                have hA1 : (u1.alloc (.cells s0.cs.toArray 34)).heap[u1.heap.size]? = some (.cells s0.cs.toArray 34 (0, 0)) := Blk.new u1 34 s0.cs.toArray
                have hg1 : wy.heap.size ≤ u1.heap.size := HB1.out.size
                have hl1 : u1.heap.size < (u1.alloc (.cells s0.cs.toArray 34)).heap.size := by rw [World.size_alloc]; omega
                have hne : u1.heap.size ≠ g0_1 := by have := HL1.out.2; omega
                have hZ0 := (hbA.block _ HL1.out.2).trans HZ1.out
                have hL0 : wy.heap.size ≤ g0_1 ∧ g0_1 < (u1.alloc (.cells s0.cs.toArray 34)).heap.size := ⟨HL1.out.1, by have := HL1.out.2; omega⟩
                generalize u1.alloc (.cells s0.cs.toArray 34) = u7 at hbA hA1 hl1 hZ0 hL0 ⊢
                have HB7 : Hid (Below wy.heap.size wy u7) := hide (HB1.out.trans (hbA.mono HB1.out.size))
                clear hbA
                generalize u1.heap.size = g1_7 at hA1 hg1 hl1 hne ⊢
                have HO7 := hide hA1
                have HM7 := hide (And.intro hg1 hl1)
                clear hA1 hg1 hl1
                have HZ7 := hide hZ0
                have HL7 := hide hL0
                have HN7 := hide hne
                clear hZ0 hL0 hne
                refine hK.out _ _ (HSany.out _ HB7.out) (fun hHeld => ?_)
                clear hK K
                try simp only [Act.put, List.setIfInBounds_toArray]
                refine wpAnyH_ready (rs := [7]) (by kernel_rfl) (by simp) ?_
                refine AllReadyH.cons rfl (fun K hK => ?_) AllReadyH.nil
                · have hsrc := own_mods Hown.out.1 (Mods.of_below HB7.out (fun _ => False)) (fun _ _ h => h)
                  refine step_append_src u7 rfl _ _ _ rfl 0 34 i0 _ 64 64 Try.underlying47 Hinfo.out.1 Hinfo.out.2.1 Hinfo.out.2.2.1 Hinfo.out.2.2.2 rfl (by omega) (.slice (some ⟨g0_1, 0, none⟩) 0 0) 0 [] rfl (own_zero HZ7.out) A (U2 j).length c ((U2 j).flatMap Sec.cs) rfl hsrc (flat_one _) (by have := Hlen65.out; unfold maxLen; omega) (by have := Hlen65.out; omega) (Nat.zero_le _) ?_
                  intro v5 u8 hown5 hgrow5 hat5
                  obtain ⟨A5_8, c5_8, rfl⟩ := own_form hown5
                  simp only [Nat.zero_add, List.nil_append] at hown5
                  rw [Nat.zero_add] at hat5 ⊢
                  have HB8 : Hid (Below wy.heap.size wy u8) := hide (HB7.out.grown hgrow5 HB7.out.size (fun k hk => by simp [Value.ownBlock] at hk; have := HL7.out.1; omega))
                  have hq5 : ∀ g, blkOf A5_8 = some g → wy.heap.size ≤ g := fun g hg => by
                    rw [← own_blkOf A5_8 (U2 j).length c5_8] at hg
                    have h1 := HB7.out.size
                    have h2 := HL7.out.1
                    rcases hat5 with h | h
                    · rw [h] at hg; simp [Value.ownBlock] at hg; omega
                    · rw [h] at hg; simp only [Option.some.injEq] at hg; omega
                  have hO1 := (hgrow5.block _ HM7.out.2 (fun e => by simp [Value.ownBlock] at e; exact HN7.out (by first | exact e | exact e.symm))).trans HO7.out
                  have hL1 : wy.heap.size ≤ g1_7 ∧ g1_7 < u8.heap.size := ⟨HM7.out.1, Nat.lt_of_lt_of_le HM7.out.2 hgrow5.size⟩
                  have hn5 : ∀ g, blkOf A5_8 = some g → g ≠ g1_7 := fun g hg e => by
                    rw [← own_blkOf A5_8 (U2 j).length c5_8] at hg
                    have h1 := HM7.out.2
                    rcases hat5 with h | h
                    · rw [h] at hg
                      simp [Value.ownBlock] at hg
                      have := HN7.out
                      omega
                    · rw [h] at hg
                      simp only [Option.some.injEq] at hg
                      omega
                  have HO8 := hide hO1
                  have HM8 := hide hL1
                  have HP8 := hide (And.intro hown5 (fun g hg => And.intro (hq5 g hg) (hn5 g hg)))
                  have HW8 := hide (And.intro hown5 hq5)
                  clear hsrc hown5 hgrow5 hat5 hq5 hO1 hL1 hn5
                  refine hK.out _ _ (HSany.out _ HB8.out) (fun hHeld => ?_)
                  clear hK K
                  try simp only [Act.put]
                  refine wpAnyH_ready (rs := [11]) (by kernel_rfl) (by simp) ?_
                  refine AllReadyH.cons rfl (fun K hK => ?_) AllReadyH.nil
                  · refine step_append_src u8 rfl _ _ _ rfl 0 34 i0 _ 64 64 Try.underlying47 Hinfo.out.1 Hinfo.out.2.1 Hinfo.out.2.2.1 Hinfo.out.2.2.2 rfl (by omega) (.slice A5_8 (U2 j).length c5_8) (U2 j).length ((U2 j).flatMap Sec.cs) rfl HP8.out.1 (some ⟨g1_7, 0, none⟩) 1 1 s0.cs rfl (own_sec s0 HO8.out) s0.one (by have := Hlen65.out; unfold maxLen; omega) (by have := Hlen65.out; omega) (Nat.zero_le _) ?_
                    intro v6 u9 hown6 hgrow6 hat6
                    obtain ⟨A6_9, c6_9, rfl⟩ := own_form hown6
                    have hq5 : ∀ g, (Value.slice A5_8 (U2 j).length c5_8).ownBlock = some g → wy.heap.size ≤ g := fun g hg => (HP8.out.2 g (by rwa [own_blkOf] at hg)).1
                    have HB9 : Hid (Below wy.heap.size wy u9) := hide (HB8.out.grown hgrow6 HB8.out.size hq5)
                    have hq6 : ∀ g, blkOf A6_9 = some g → wy.heap.size ≤ g := fun g hg => by
                      rw [← own_blkOf A6_9 ((U2 j).length + 1) c6_9] at hg
                      have h1 := HB8.out.size
                      rcases hat6 with h | h
                      · rw [h] at hg; exact hq5 g hg
                      · rw [h] at hg; simp only [Option.some.injEq] at hg; omega
                    have HX9 := hide (And.intro hown6 hq6)
                    clear hown6 hgrow6 hat6 hq5 hq6
                    refine hK.out _ _ (HSany.out _ HB9.out) (fun hHeld => ?_)
                    clear hK K
                    try simp only [Act.put]
                    refine wpAnyH_take (i := 12) (oi := ⟨_, _, _, _, _, _⟩) (v := ?_) rfl (by kernel_rfl) (by kernel_rfl) (by kernel_rfl) (fun _ _ _ h => h) (Or.inl ⟨by rfl, ?_⟩) hHeld ?_
                    rotate_left
                    · intro w' hS
                      obtain ⟨x0, x1, x2⟩ := hS
                      go_simp
                      first | done | with_reducible rfl
                    try simp only [Act.put]
                    refine wpAnyH_ready (rs := [13]) (by kernel_rfl) (by simp) ?_
                    refine AllReadyH.cons rfl (fun K hK => ?_) AllReadyH.nil
                    · have cwn : u9.cell? ⟨bw, j, none⟩ = some (.slice A (U2 j).length c) := (HB9.out.cell (p := ⟨bw, j, none⟩) Hbwl.out).trans Hcw.out.1
                      have fwn : u9.frozen? ⟨bw, j, none⟩ = false := (HB9.out.frozen (p := ⟨bw, j, none⟩) Hbwl.out).trans Hcw.out.2
                      go_simp
                      clear cwn fwn
                      refine hK.out _ _ (HSst.out _ _ HB9.out) (fun hHeld => ?_)
                      clear hK K
                      obtain ⟨u10, hwn⟩ : ∃ u, u = u9.setCell ⟨bw, j, none⟩ (.slice A6_9 ((U2 j).length + 1) c6_9) := ⟨_, rfl⟩
                      rw [← hwn] at hHeld ⊢
                      have HE10 := hide hwn
                      clear hwn
                      try simp only [Act.put, List.setIfInBounds_toArray, List.set_cons_zero, List.set_cons_succ]
                      refine wpAnyH_done (by kernel_rfl) ?_ _
                      refine NoPanic.normal ?_
                      have Hfin : Hid (∃ B', Sp.Inv w rb bd bx bw gb q d n X' Y Ds2 B' (fun b => b = ob) u10 ∧ Blk u10 ob 68 ps[k].cells.toArray ∧ Blk u10 bz 3 #[.int .i64 (j : Int)]) := hide (by
                        have hb6 := HB9.out
                        have hown6 := HX9.out
                        have hm : Mods (fun b => b = bw) wy u10 := by rw [HE10.out]; exact (Mods.of_below hb6 (fun b => b = bw)).setCell (p := ⟨bw, j, none⟩) (.inl rfl) _
                        obtain ⟨csw, hcsn, hbwB, -⟩ := HIy.out.rows
                        have hrow : Wr u10 bw n (fun i => if i = j then U2 j ++ [s0] else U2 i) (fun g => B2 g ∨ (wy.heap.size ≤ g ∧ g < u10.heap.size)) := by
                          have hs7 : u9.heap.size ≤ u10.heap.size := by rw [HE10.out]; simp [World.setCell]
                          have h2 : ((U2 j ++ [s0]).flatMap Sec.cs) = (U2 j).flatMap Sec.cs ++ s0.cs := by simp
                          have h3 : (U2 j ++ [s0]).length = (U2 j).length + 1 := by simp
                          have hw := ((HIy.out.rows.below hb6).mono (B' := fun g => B2 g ∨ (wy.heap.size ≤ g ∧ g < u10.heap.size)) (fun g hg => .inl hg)).store (V := U2 j ++ [s0]) (A := A6_9) (c := c6_9) hjn (by rw [h2, h3]; exact hown6.1) (fun g hg => .inr ⟨hown6.2 g hg, by
                            have hl := own_lt hown6.1 g (by rw [own_blkOf]; exact hg)
                            omega⟩)
                          rw [h3] at hw
                          exact Eq.mp (congrArg (fun u => Wr u bw n (fun i => if i = j then U2 j ++ [s0] else U2 i) (fun g => B2 g ∨ (wy.heap.size ≤ g ∧ g < u10.heap.size))) HE10.out.symm) hw
                        refine ⟨_, HIy.out.wrote hm (hrow.congr (fun i _ => ?_)) (fun g hg => hg), KOy.out.mods hm (KOy.out.ne_type hbwB (by decide)), Kzy.out.mods hm (Kzy.out.ne_type hbwB (by decide))⟩
                        by_cases e : i = j
                        · rw [e, if_pos rfl, Hs0.out]; exact HgtY.out.1
                        · rw [if_neg e]; exact HgtY.out.2 i e)
                      clear hHeld
                      go_wp2_with fail
                      obtain ⟨B', hf1, hf2, hf3⟩ := Hfin.out
                      exact Sp.Post.normal (R := Sp.Grown w rb bd gb bx bw ob bz q d n (some ⟨ab, off, none⟩) ps.length cap1 k j Lj.length X' Y Ds2 ps[k].cells.toArray) ⟨B', rfl, hf1, hf2, hf3⟩
            · refine step_build1 rfl s0 (.tmp 81) rfl rfl ?_
              have hbA : Below u1.heap.size u1 (u1.alloc (.cells s0.cs.toArray 34)) := (Below.refl _ u1).alloc (Nat.le_refl _) _
              have hA1 : (u1.alloc (.cells s0.cs.toArray 34)).heap[u1.heap.size]? = some (.cells s0.cs.toArray 34 (0, 0)) := Blk.new u1 34 s0.cs.toArray
              have hg1 : wy.heap.size ≤ u1.heap.size := HB1.out.size
              have hl1 : u1.heap.size < (u1.alloc (.cells s0.cs.toArray 34)).heap.size := by rw [World.size_alloc]; omega
              have hne : u1.heap.size ≠ g0_1 := by have := HL1.out.2; omega
              have hZ0 := (hbA.block _ HL1.out.2).trans HZ1.out
              have hL0 : wy.heap.size ≤ g0_1 ∧ g0_1 < (u1.alloc (.cells s0.cs.toArray 34)).heap.size := ⟨HL1.out.1, by have := HL1.out.2; omega⟩
              generalize u1.alloc (.cells s0.cs.toArray 34) = u11 at hbA hA1 hl1 hZ0 hL0 ⊢
              have HB11 : Hid (Below wy.heap.size wy u11) := hide (HB1.out.trans (hbA.mono HB1.out.size))
              clear hbA
              generalize u1.heap.size = g1_11 at hA1 hg1 hl1 hne ⊢
              have HO11 := hide hA1
              have HM11 := hide (And.intro hg1 hl1)
              clear hA1 hg1 hl1
              have HZ11 := hide hZ0
              have HL11 := hide hL0
              have HN11 := hide hne
              clear hZ0 hL0 hne
              refine hK.out _ _ (HSany.out _ HB11.out) (fun hHeld => ?_)
              clear hK K
              try simp only [Act.put, List.setIfInBounds_toArray]
              refine wpAnyH_ready (rs := [6]) (by kernel_rfl) (by simp) ?_
              refine AllReadyH.cons rfl (fun K hK => ?_) AllReadyH.nil
              · have cwn : u11.cell? ⟨bw, j, none⟩ = some (.slice A (U2 j).length c) := (HB11.out.cell (p := ⟨bw, j, none⟩) Hbwl.out).trans Hcw.out.1
                go_simp
                clear cwn
                refine hK.out _ _ (HSany.out _ HB11.out) (fun hHeld => ?_)
                clear hK K
                try simp only [Act.put, List.setIfInBounds_toArray, List.set_cons_zero, List.set_cons_succ]
                refine wpAnyH_ready (rs := [7]) (by kernel_rfl) (by simp) ?_
                refine AllReadyH.cons rfl (fun K hK => ?_) AllReadyH.nil
                · have hsrc := own_mods Hown.out.1 (Mods.of_below HB11.out (fun _ => False)) (fun _ _ h => h)
                  refine step_append_src u11 rfl _ _ _ rfl 0 34 i0 _ 64 64 Try.underlying47 Hinfo.out.1 Hinfo.out.2.1 Hinfo.out.2.2.1 Hinfo.out.2.2.2 rfl (by omega) (.slice (some ⟨g0_1, 0, none⟩) 0 0) 0 [] rfl (own_zero HZ11.out) A (U2 j).length c ((U2 j).flatMap Sec.cs) rfl hsrc (flat_one _) (by have := Hlen65.out; unfold maxLen; omega) (by have := Hlen65.out; omega) (Nat.zero_le _) ?_
                  intro v5 u13 hown5 hgrow5 hat5
                  obtain ⟨A5_13, c5_13, rfl⟩ := own_form hown5
                  simp only [Nat.zero_add, List.nil_append] at hown5
                  rw [Nat.zero_add] at hat5 ⊢
                  have HB13 : Hid (Below wy.heap.size wy u13) := hide (HB11.out.grown hgrow5 HB11.out.size (fun k hk => by simp [Value.ownBlock] at hk; have := HL11.out.1; omega))
                  have hq5 : ∀ g, blkOf A5_13 = some g → wy.heap.size ≤ g := fun g hg => by
                    rw [← own_blkOf A5_13 (U2 j).length c5_13] at hg
                    have h1 := HB11.out.size
                    have h2 := HL11.out.1
                    rcases hat5 with h | h
                    · rw [h] at hg; simp [Value.ownBlock] at hg; omega
                    · rw [h] at hg; simp only [Option.some.injEq] at hg; omega
                  have hO1 := (hgrow5.block _ HM11.out.2 (fun e => by simp [Value.ownBlock] at e; exact HN11.out (by first | exact e | exact e.symm))).trans HO11.out
                  have hL1 : wy.heap.size ≤ g1_11 ∧ g1_11 < u13.heap.size := ⟨HM11.out.1, Nat.lt_of_lt_of_le HM11.out.2 hgrow5.size⟩
                  have hn5 : ∀ g, blkOf A5_13 = some g → g ≠ g1_11 := fun g hg e => by
                    rw [← own_blkOf A5_13 (U2 j).length c5_13] at hg
                    have h1 := HM11.out.2
                    rcases hat5 with h | h
                    · rw [h] at hg
                      simp [Value.ownBlock] at hg
                      have := HN11.out
                      omega
                    · rw [h] at hg
                      simp only [Option.some.injEq] at hg
                      omega
                  have HO13 := hide hO1
                  have HM13 := hide hL1
                  have HP13 := hide (And.intro hown5 (fun g hg => And.intro (hq5 g hg) (hn5 g hg)))
                  have HW13 := hide (And.intro hown5 hq5)
                  clear hsrc hown5 hgrow5 hat5 hq5 hO1 hL1 hn5
                  refine hK.out _ _ (HSany.out _ HB13.out) (fun hHeld => ?_)
                  clear hK K
                  try simp only [Act.put, List.setIfInBounds_toArray]
                  refine wpAnyH_ready (rs := [11]) (by kernel_rfl) (by simp) ?_
                  refine AllReadyH.cons rfl (fun K hK => ?_) AllReadyH.nil
                  · refine step_append_src u13 rfl _ _ _ rfl 0 34 i0 _ 64 64 Try.underlying47 Hinfo.out.1 Hinfo.out.2.1 Hinfo.out.2.2.1 Hinfo.out.2.2.2 rfl (by omega) (.slice A5_13 (U2 j).length c5_13) (U2 j).length ((U2 j).flatMap Sec.cs) rfl HP13.out.1 (some ⟨g1_11, 0, none⟩) 1 1 s0.cs rfl (own_sec s0 HO13.out) s0.one (by have := Hlen65.out; unfold maxLen; omega) (by have := Hlen65.out; omega) (Nat.zero_le _) ?_
                    intro v6 u14 hown6 hgrow6 hat6
                    obtain ⟨A6_14, c6_14, rfl⟩ := own_form hown6
                    have hq5 : ∀ g, (Value.slice A5_13 (U2 j).length c5_13).ownBlock = some g → wy.heap.size ≤ g := fun g hg => (HP13.out.2 g (by rwa [own_blkOf] at hg)).1
                    have HB14 : Hid (Below wy.heap.size wy u14) := hide (HB13.out.grown hgrow6 HB13.out.size hq5)
                    have hq6 : ∀ g, blkOf A6_14 = some g → wy.heap.size ≤ g := fun g hg => by
                      rw [← own_blkOf A6_14 ((U2 j).length + 1) c6_14] at hg
                      have h1 := HB13.out.size
                      rcases hat6 with h | h
                      · rw [h] at hg; exact hq5 g hg
                      · rw [h] at hg; simp only [Option.some.injEq] at hg; omega
                    have HX14 := hide (And.intro hown6 hq6)
                    clear hown6 hgrow6 hat6 hq5 hq6
                    refine hK.out _ _ (HSany.out _ HB14.out) (fun hHeld => ?_)
                    clear hK K
                    try simp only [Act.put]
                    refine wpAnyH_take (i := 12) (oi := ⟨_, _, _, _, _, _⟩) (v := ?_) rfl (by kernel_rfl) (by kernel_rfl) (by kernel_rfl) (fun _ _ _ h => h) (Or.inl ⟨by rfl, ?_⟩) hHeld ?_
                    rotate_left
                    · intro w' hS
                      obtain ⟨x0, x1, x2⟩ := hS
                      go_simp
                      first | done | with_reducible rfl
                    try simp only [Act.put]
                    refine wpAnyH_ready (rs := [13]) (by kernel_rfl) (by simp) ?_
                    refine AllReadyH.cons rfl (fun K hK => ?_) AllReadyH.nil
                    · have cwn : u14.cell? ⟨bw, j, none⟩ = some (.slice A (U2 j).length c) := (HB14.out.cell (p := ⟨bw, j, none⟩) Hbwl.out).trans Hcw.out.1
                      have fwn : u14.frozen? ⟨bw, j, none⟩ = false := (HB14.out.frozen (p := ⟨bw, j, none⟩) Hbwl.out).trans Hcw.out.2
                      go_simp
                      clear cwn fwn
                      refine hK.out _ _ (HSst.out _ _ HB14.out) (fun hHeld => ?_)
                      clear hK K
                      obtain ⟨u15, hwn⟩ : ∃ u, u = u14.setCell ⟨bw, j, none⟩ (.slice A6_14 ((U2 j).length + 1) c6_14) := ⟨_, rfl⟩
                      rw [← hwn] at hHeld ⊢
                      have HE15 := hide hwn
                      clear hwn
                      try simp only [Act.put, List.setIfInBounds_toArray, List.set_cons_zero, List.set_cons_succ]
                      refine wpAnyH_done (by kernel_rfl) ?_ _
                      refine NoPanic.normal ?_
                      have Hfin : Hid (∃ B', Sp.Inv w rb bd bx bw gb q d n X' Y Ds2 B' (fun b => b = ob) u15 ∧ Blk u15 ob 68 ps[k].cells.toArray ∧ Blk u15 bz 3 #[.int .i64 (j : Int)]) := hide (by
                        have hb6 := HB14.out
                        have hown6 := HX14.out
                        have hm : Mods (fun b => b = bw) wy u15 := by rw [HE15.out]; exact (Mods.of_below hb6 (fun b => b = bw)).setCell (p := ⟨bw, j, none⟩) (.inl rfl) _
                        obtain ⟨csw, hcsn, hbwB, -⟩ := HIy.out.rows
                        have hrow : Wr u15 bw n (fun i => if i = j then U2 j ++ [s0] else U2 i) (fun g => B2 g ∨ (wy.heap.size ≤ g ∧ g < u15.heap.size)) := by
                          have hs7 : u14.heap.size ≤ u15.heap.size := by rw [HE15.out]; simp [World.setCell]
                          have h2 : ((U2 j ++ [s0]).flatMap Sec.cs) = (U2 j).flatMap Sec.cs ++ s0.cs := by simp
                          have h3 : (U2 j ++ [s0]).length = (U2 j).length + 1 := by simp
                          have hw := ((HIy.out.rows.below hb6).mono (B' := fun g => B2 g ∨ (wy.heap.size ≤ g ∧ g < u15.heap.size)) (fun g hg => .inl hg)).store (V := U2 j ++ [s0]) (A := A6_14) (c := c6_14) hjn (by rw [h2, h3]; exact hown6.1) (fun g hg => .inr ⟨hown6.2 g hg, by
                            have hl := own_lt hown6.1 g (by rw [own_blkOf]; exact hg)
                            omega⟩)
                          rw [h3] at hw
                          exact Eq.mp (congrArg (fun u => Wr u bw n (fun i => if i = j then U2 j ++ [s0] else U2 i) (fun g => B2 g ∨ (wy.heap.size ≤ g ∧ g < u15.heap.size))) HE15.out.symm) hw
                        refine ⟨_, HIy.out.wrote hm (hrow.congr (fun i _ => ?_)) (fun g hg => hg), KOy.out.mods hm (KOy.out.ne_type hbwB (by decide)), Kzy.out.mods hm (Kzy.out.ne_type hbwB (by decide))⟩
                        by_cases e : i = j
                        · rw [e, if_pos rfl, Hs0.out]; exact HgtY.out.1
                        · rw [if_neg e]; exact HgtY.out.2 i e)
                      clear hHeld
                      go_wp2_with fail
                      obtain ⟨B', hf1, hf2, hf3⟩ := Hfin.out
                      exact Sp.Post.normal (R := Sp.Grown w rb bd gb bx bw ob bz q d n (some ⟨ab, off, none⟩) ps.length cap1 k j Lj.length X' Y Ds2 ps[k].cells.toArray) ⟨B', rfl, hf1, hf2, hf3⟩
          · have cwn : wd.cell? ⟨bw, j, none⟩ = some (.slice A (U2 j).length c) := (HBd.out.cell (p := ⟨bw, j, none⟩) Hbwl.out).trans Hcw.out.1
            go_simp
            clear cwn
            refine hK.out _ _ (HSany.out _ HBd.out) (fun hHeld => ?_)
            clear hK K
            try simp only [Act.put, List.setIfInBounds_toArray, List.set_cons_zero, List.set_cons_succ]
            refine wpAnyH_ready (rs := [2, 10]) (by kernel_rfl) (by simp) ?_
            refine AllReadyH.cons rfl (fun K hK => ?_) (AllReadyH.cons rfl (fun K hK => ?_) AllReadyH.nil)
            · go_simp
              have hbA : Below wd.heap.size wd (wd.alloc (.cells #[] 34)) := (Below.refl _ wd).alloc (Nat.le_refl _) _
              have hA0 : (wd.alloc (.cells #[] 34)).heap[wd.heap.size]? = some (.cells #[] 34 (0, 0)) := Blk.new wd 34 #[]
              have hg0 : wy.heap.size ≤ wd.heap.size := HBd.out.size
              have hl0 : wd.heap.size < (wd.alloc (.cells #[] 34)).heap.size := by rw [World.size_alloc]; omega
              generalize wd.alloc (.cells #[] 34) = u17 at hbA hA0 hl0 ⊢
              have HB17 : Hid (Below wy.heap.size wy u17) := hide (HBd.out.trans (hbA.mono HBd.out.size))
              clear hbA
              generalize wd.heap.size = g0_17 at hA0 hg0 hl0 ⊢
              have HZ17 := hide hA0
              have HL17 := hide (And.intro hg0 hl0)
              clear hA0 hg0 hl0
              refine hK.out _ _ (HSany.out _ HB17.out) (fun hHeld => ?_)
              clear hK K
              try simp only [Act.put, List.setIfInBounds_toArray, List.set_cons_zero, List.set_cons_succ]
              refine wpAnyH_ready (rs := [7, 10]) (by kernel_rfl) (by simp) ?_
              refine AllReadyH.cons rfl (fun K hK => ?_) (AllReadyH.cons rfl (fun K hK => ?_) AllReadyH.nil)
              · have hsrc := own_mods Hown.out.1 (Mods.of_below HB17.out (fun _ => False)) (fun _ _ h => h)
                refine step_append_src u17 rfl _ _ _ rfl 0 34 i0 _ 64 64 Try.underlying47 Hinfo.out.1 Hinfo.out.2.1 Hinfo.out.2.2.1 Hinfo.out.2.2.2 rfl (by omega) (.slice (some ⟨g0_17, 0, none⟩) 0 0) 0 [] rfl (own_zero HZ17.out) A (U2 j).length c ((U2 j).flatMap Sec.cs) rfl hsrc (flat_one _) (by have := Hlen65.out; unfold maxLen; omega) (by have := Hlen65.out; omega) (Nat.zero_le _) ?_
                intro v5 u18 hown5 hgrow5 hat5
                obtain ⟨A5_18, c5_18, rfl⟩ := own_form hown5
                simp only [Nat.zero_add, List.nil_append] at hown5
                rw [Nat.zero_add] at hat5 ⊢
                have HB18 : Hid (Below wy.heap.size wy u18) := hide (HB17.out.grown hgrow5 HB17.out.size (fun k hk => by simp [Value.ownBlock] at hk; have := HL17.out.1; omega))
                have hq5 : ∀ g, blkOf A5_18 = some g → wy.heap.size ≤ g := fun g hg => by
                  rw [← own_blkOf A5_18 (U2 j).length c5_18] at hg
                  have h1 := HB17.out.size
                  have h2 := HL17.out.1
                  rcases hat5 with h | h
                  · rw [h] at hg; simp [Value.ownBlock] at hg; omega
                  · rw [h] at hg; simp only [Option.some.injEq] at hg; omega
                have HW18 := hide (And.intro hown5 hq5)
                clear hsrc hown5 hgrow5 hat5 hq5
                refine hK.out _ _ (HSany.out _ HB18.out) (fun hHeld => ?_)
                clear hK K
                try simp only [Act.put, List.setIfInBounds_toArray]
                refine wpAnyH_ready (rs := [10]) (by kernel_rfl) (by simp) ?_
                refine AllReadyH.cons rfl (fun K hK => ?_) AllReadyH.nil
                · refine step_build1 rfl s0 (.tmp 81) rfl rfl ?_
                  have hbA : Below u18.heap.size u18 (u18.alloc (.cells s0.cs.toArray 34)) := (Below.refl _ u18).alloc (Nat.le_refl _) _
                  have hA1 : (u18.alloc (.cells s0.cs.toArray 34)).heap[u18.heap.size]? = some (.cells s0.cs.toArray 34 (0, 0)) := Blk.new u18 34 s0.cs.toArray
                  have hg1 : wy.heap.size ≤ u18.heap.size := HB18.out.size
                  have hl1 : u18.heap.size < (u18.alloc (.cells s0.cs.toArray 34)).heap.size := by rw [World.size_alloc]; omega
                  have hO5 : (u18.alloc (.cells s0.cs.toArray 34)).ownsRow 0 34 64 (.slice A5_18 (U2 j).length c5_18) (U2 j).length ((U2 j).flatMap Sec.cs) := own_mods HW18.out.1 (Mods.of_below hbA (fun _ => False)) (fun _ _ h => h)
                  have hq5 : ∀ g, blkOf A5_18 = some g → wy.heap.size ≤ g ∧ g ≠ u18.heap.size := fun g hg => ⟨HW18.out.2 g hg, by have := own_lt HW18.out.1 g (by rw [own_blkOf]; exact hg); omega⟩
                  generalize u18.alloc (.cells s0.cs.toArray 34) = u19 at hbA hA1 hl1 hO5 ⊢
                  have HB19 : Hid (Below wy.heap.size wy u19) := hide (HB18.out.trans (hbA.mono HB18.out.size))
                  clear hbA
                  generalize u18.heap.size = g1_19 at hA1 hg1 hl1 hq5 ⊢
                  have HO19 := hide hA1
                  have HM19 := hide (And.intro hg1 hl1)
                  clear hA1 hg1 hl1
                  have HP19 := hide (And.intro hO5 hq5)
                  clear hO5 hq5
                  refine hK.out _ _ (HSany.out _ HB19.out) (fun hHeld => ?_)
                  clear hK K
                  try simp only [Act.put]
                  refine wpAnyH_ready (rs := [11]) (by kernel_rfl) (by simp) ?_
                  refine AllReadyH.cons rfl (fun K hK => ?_) AllReadyH.nil
                  · refine step_append_src u19 rfl _ _ _ rfl 0 34 i0 _ 64 64 Try.underlying47 Hinfo.out.1 Hinfo.out.2.1 Hinfo.out.2.2.1 Hinfo.out.2.2.2 rfl (by omega) (.slice A5_18 (U2 j).length c5_18) (U2 j).length ((U2 j).flatMap Sec.cs) rfl HP19.out.1 (some ⟨g1_19, 0, none⟩) 1 1 s0.cs rfl (own_sec s0 HO19.out) s0.one (by have := Hlen65.out; unfold maxLen; omega) (by have := Hlen65.out; omega) (Nat.zero_le _) ?_
                    intro v6 u20 hown6 hgrow6 hat6
                    obtain ⟨A6_20, c6_20, rfl⟩ := own_form hown6
                    have hq5 : ∀ g, (Value.slice A5_18 (U2 j).length c5_18).ownBlock = some g → wy.heap.size ≤ g := fun g hg => (HP19.out.2 g (by rwa [own_blkOf] at hg)).1
                    have HB20 : Hid (Below wy.heap.size wy u20) := hide (HB19.out.grown hgrow6 HB19.out.size hq5)
                    have hq6 : ∀ g, blkOf A6_20 = some g → wy.heap.size ≤ g := fun g hg => by
                      rw [← own_blkOf A6_20 ((U2 j).length + 1) c6_20] at hg
                      have h1 := HB19.out.size
                      rcases hat6 with h | h
                      · rw [h] at hg; exact hq5 g hg
                      · rw [h] at hg; simp only [Option.some.injEq] at hg; omega
                    have HX20 := hide (And.intro hown6 hq6)
                    clear hown6 hgrow6 hat6 hq5 hq6
                    refine hK.out _ _ (HSany.out _ HB20.out) (fun hHeld => ?_)
                    clear hK K
                    try simp only [Act.put]
                    refine wpAnyH_take (i := 12) (oi := ⟨_, _, _, _, _, _⟩) (v := ?_) rfl (by kernel_rfl) (by kernel_rfl) (by kernel_rfl) (fun _ _ _ h => h) (Or.inl ⟨by rfl, ?_⟩) hHeld ?_
                    rotate_left
                    · intro w' hS
                      obtain ⟨x0, x1, x2⟩ := hS
                      go_simp
                      first | done | with_reducible rfl
                    try simp only [Act.put]
                    refine wpAnyH_ready (rs := [13]) (by kernel_rfl) (by simp) ?_
                    refine AllReadyH.cons rfl (fun K hK => ?_) AllReadyH.nil
                    · have cwn : u20.cell? ⟨bw, j, none⟩ = some (.slice A (U2 j).length c) := (HB20.out.cell (p := ⟨bw, j, none⟩) Hbwl.out).trans Hcw.out.1
                      have fwn : u20.frozen? ⟨bw, j, none⟩ = false := (HB20.out.frozen (p := ⟨bw, j, none⟩) Hbwl.out).trans Hcw.out.2
                      go_simp
                      clear cwn fwn
                      refine hK.out _ _ (HSst.out _ _ HB20.out) (fun hHeld => ?_)
                      clear hK K
                      obtain ⟨u21, hwn⟩ : ∃ u, u = u20.setCell ⟨bw, j, none⟩ (.slice A6_20 ((U2 j).length + 1) c6_20) := ⟨_, rfl⟩
                      rw [← hwn] at hHeld ⊢
                      have HE21 := hide hwn
                      clear hwn
                      try simp only [Act.put, List.setIfInBounds_toArray, List.set_cons_zero, List.set_cons_succ]
                      refine wpAnyH_done (by kernel_rfl) ?_ _
                      refine NoPanic.normal ?_
                      have Hfin : Hid (∃ B', Sp.Inv w rb bd bx bw gb q d n X' Y Ds2 B' (fun b => b = ob) u21 ∧ Blk u21 ob 68 ps[k].cells.toArray ∧ Blk u21 bz 3 #[.int .i64 (j : Int)]) := hide (by
                        have hb6 := HB20.out
                        have hown6 := HX20.out
                        have hm : Mods (fun b => b = bw) wy u21 := by rw [HE21.out]; exact (Mods.of_below hb6 (fun b => b = bw)).setCell (p := ⟨bw, j, none⟩) (.inl rfl) _
                        obtain ⟨csw, hcsn, hbwB, -⟩ := HIy.out.rows
                        have hrow : Wr u21 bw n (fun i => if i = j then U2 j ++ [s0] else U2 i) (fun g => B2 g ∨ (wy.heap.size ≤ g ∧ g < u21.heap.size)) := by
                          have hs7 : u20.heap.size ≤ u21.heap.size := by rw [HE21.out]; simp [World.setCell]
                          have h2 : ((U2 j ++ [s0]).flatMap Sec.cs) = (U2 j).flatMap Sec.cs ++ s0.cs := by simp
                          have h3 : (U2 j ++ [s0]).length = (U2 j).length + 1 := by simp
                          have hw := ((HIy.out.rows.below hb6).mono (B' := fun g => B2 g ∨ (wy.heap.size ≤ g ∧ g < u21.heap.size)) (fun g hg => .inl hg)).store (V := U2 j ++ [s0]) (A := A6_20) (c := c6_20) hjn (by rw [h2, h3]; exact hown6.1) (fun g hg => .inr ⟨hown6.2 g hg, by
                            have hl := own_lt hown6.1 g (by rw [own_blkOf]; exact hg)
                            omega⟩)
                          rw [h3] at hw
                          exact Eq.mp (congrArg (fun u => Wr u bw n (fun i => if i = j then U2 j ++ [s0] else U2 i) (fun g => B2 g ∨ (wy.heap.size ≤ g ∧ g < u21.heap.size))) HE21.out.symm) hw
                        refine ⟨_, HIy.out.wrote hm (hrow.congr (fun i _ => ?_)) (fun g hg => hg), KOy.out.mods hm (KOy.out.ne_type hbwB (by decide)), Kzy.out.mods hm (Kzy.out.ne_type hbwB (by decide))⟩
                        by_cases e : i = j
                        · rw [e, if_pos rfl, Hs0.out]; exact HgtY.out.1
                        · rw [if_neg e]; exact HgtY.out.2 i e)
                      clear hHeld
                      go_wp2_with fail
                      obtain ⟨B', hf1, hf2, hf3⟩ := Hfin.out
                      exact Sp.Post.normal (R := Sp.Grown w rb bd gb bx bw ob bz q d n (some ⟨ab, off, none⟩) ps.length cap1 k j Lj.length X' Y Ds2 ps[k].cells.toArray) ⟨B', rfl, hf1, hf2, hf3⟩
              · refine step_build1 rfl s0 (.tmp 81) rfl rfl ?_
                have hbA : Below u17.heap.size u17 (u17.alloc (.cells s0.cs.toArray 34)) := (Below.refl _ u17).alloc (Nat.le_refl _) _
                have hA1 : (u17.alloc (.cells s0.cs.toArray 34)).heap[u17.heap.size]? = some (.cells s0.cs.toArray 34 (0, 0)) := Blk.new u17 34 s0.cs.toArray
                have hg1 : wy.heap.size ≤ u17.heap.size := HB17.out.size
                have hl1 : u17.heap.size < (u17.alloc (.cells s0.cs.toArray 34)).heap.size := by rw [World.size_alloc]; omega
                have hne : u17.heap.size ≠ g0_17 := by have := HL17.out.2; omega
                have hZ0 := (hbA.block _ HL17.out.2).trans HZ17.out
                have hL0 : wy.heap.size ≤ g0_17 ∧ g0_17 < (u17.alloc (.cells s0.cs.toArray 34)).heap.size := ⟨HL17.out.1, by have := HL17.out.2; omega⟩
                generalize u17.alloc (.cells s0.cs.toArray 34) = u22 at hbA hA1 hl1 hZ0 hL0 ⊢
                have HB22 : Hid (Below wy.heap.size wy u22) := hide (HB17.out.trans (hbA.mono HB17.out.size))
                clear hbA
                generalize u17.heap.size = g1_22 at hA1 hg1 hl1 hne ⊢
                have HO22 := hide hA1
                have HM22 := hide (And.intro hg1 hl1)
                clear hA1 hg1 hl1
                have HZ22 := hide hZ0
                have HL22 := hide hL0
                have HN22 := hide hne
                clear hZ0 hL0 hne
                refine hK.out _ _ (HSany.out _ HB22.out) (fun hHeld => ?_)
                clear hK K
                try simp only [Act.put, List.setIfInBounds_toArray]
                refine wpAnyH_ready (rs := [7]) (by kernel_rfl) (by simp) ?_
                refine AllReadyH.cons rfl (fun K hK => ?_) AllReadyH.nil
                · have hsrc := own_mods Hown.out.1 (Mods.of_below HB22.out (fun _ => False)) (fun _ _ h => h)
                  refine step_append_src u22 rfl _ _ _ rfl 0 34 i0 _ 64 64 Try.underlying47 Hinfo.out.1 Hinfo.out.2.1 Hinfo.out.2.2.1 Hinfo.out.2.2.2 rfl (by omega) (.slice (some ⟨g0_17, 0, none⟩) 0 0) 0 [] rfl (own_zero HZ22.out) A (U2 j).length c ((U2 j).flatMap Sec.cs) rfl hsrc (flat_one _) (by have := Hlen65.out; unfold maxLen; omega) (by have := Hlen65.out; omega) (Nat.zero_le _) ?_
                  intro v5 u23 hown5 hgrow5 hat5
                  obtain ⟨A5_23, c5_23, rfl⟩ := own_form hown5
                  simp only [Nat.zero_add, List.nil_append] at hown5
                  rw [Nat.zero_add] at hat5 ⊢
                  have HB23 : Hid (Below wy.heap.size wy u23) := hide (HB22.out.grown hgrow5 HB22.out.size (fun k hk => by simp [Value.ownBlock] at hk; have := HL22.out.1; omega))
                  have hq5 : ∀ g, blkOf A5_23 = some g → wy.heap.size ≤ g := fun g hg => by
                    rw [← own_blkOf A5_23 (U2 j).length c5_23] at hg
                    have h1 := HB22.out.size
                    have h2 := HL22.out.1
                    rcases hat5 with h | h
                    · rw [h] at hg; simp [Value.ownBlock] at hg; omega
                    · rw [h] at hg; simp only [Option.some.injEq] at hg; omega
                  have hO1 := (hgrow5.block _ HM22.out.2 (fun e => by simp [Value.ownBlock] at e; exact HN22.out (by first | exact e | exact e.symm))).trans HO22.out
                  have hL1 : wy.heap.size ≤ g1_22 ∧ g1_22 < u23.heap.size := ⟨HM22.out.1, Nat.lt_of_lt_of_le HM22.out.2 hgrow5.size⟩
                  have hn5 : ∀ g, blkOf A5_23 = some g → g ≠ g1_22 := fun g hg e => by
                    rw [← own_blkOf A5_23 (U2 j).length c5_23] at hg
                    have h1 := HM22.out.2
                    rcases hat5 with h | h
                    · rw [h] at hg
                      simp [Value.ownBlock] at hg
                      have := HN22.out
                      omega
                    · rw [h] at hg
                      simp only [Option.some.injEq] at hg
                      omega
                  have HO23 := hide hO1
                  have HM23 := hide hL1
                  have HP23 := hide (And.intro hown5 (fun g hg => And.intro (hq5 g hg) (hn5 g hg)))
                  have HW23 := hide (And.intro hown5 hq5)
                  clear hsrc hown5 hgrow5 hat5 hq5 hO1 hL1 hn5
                  refine hK.out _ _ (HSany.out _ HB23.out) (fun hHeld => ?_)
                  clear hK K
                  try simp only [Act.put]
                  refine wpAnyH_ready (rs := [11]) (by kernel_rfl) (by simp) ?_
                  refine AllReadyH.cons rfl (fun K hK => ?_) AllReadyH.nil
                  · refine step_append_src u23 rfl _ _ _ rfl 0 34 i0 _ 64 64 Try.underlying47 Hinfo.out.1 Hinfo.out.2.1 Hinfo.out.2.2.1 Hinfo.out.2.2.2 rfl (by omega) (.slice A5_23 (U2 j).length c5_23) (U2 j).length ((U2 j).flatMap Sec.cs) rfl HP23.out.1 (some ⟨g1_22, 0, none⟩) 1 1 s0.cs rfl (own_sec s0 HO23.out) s0.one (by have := Hlen65.out; unfold maxLen; omega) (by have := Hlen65.out; omega) (Nat.zero_le _) ?_
                    intro v6 u24 hown6 hgrow6 hat6
                    obtain ⟨A6_24, c6_24, rfl⟩ := own_form hown6
                    have hq5 : ∀ g, (Value.slice A5_23 (U2 j).length c5_23).ownBlock = some g → wy.heap.size ≤ g := fun g hg => (HP23.out.2 g (by rwa [own_blkOf] at hg)).1
                    have HB24 : Hid (Below wy.heap.size wy u24) := hide (HB23.out.grown hgrow6 HB23.out.size hq5)
                    have hq6 : ∀ g, blkOf A6_24 = some g → wy.heap.size ≤ g := fun g hg => by
                      rw [← own_blkOf A6_24 ((U2 j).length + 1) c6_24] at hg
                      have h1 := HB23.out.size
                      rcases hat6 with h | h
                      · rw [h] at hg; exact hq5 g hg
                      · rw [h] at hg; simp only [Option.some.injEq] at hg; omega
                    have HX24 := hide (And.intro hown6 hq6)
                    clear hown6 hgrow6 hat6 hq5 hq6
                    refine hK.out _ _ (HSany.out _ HB24.out) (fun hHeld => ?_)
                    clear hK K
                    try simp only [Act.put]
                    refine wpAnyH_take (i := 12) (oi := ⟨_, _, _, _, _, _⟩) (v := ?_) rfl (by kernel_rfl) (by kernel_rfl) (by kernel_rfl) (fun _ _ _ h => h) (Or.inl ⟨by rfl, ?_⟩) hHeld ?_
                    rotate_left
                    · intro w' hS
                      obtain ⟨x0, x1, x2⟩ := hS
                      go_simp
                      first | done | with_reducible rfl
                    try simp only [Act.put]
                    refine wpAnyH_ready (rs := [13]) (by kernel_rfl) (by simp) ?_
                    refine AllReadyH.cons rfl (fun K hK => ?_) AllReadyH.nil
                    · have cwn : u24.cell? ⟨bw, j, none⟩ = some (.slice A (U2 j).length c) := (HB24.out.cell (p := ⟨bw, j, none⟩) Hbwl.out).trans Hcw.out.1
                      have fwn : u24.frozen? ⟨bw, j, none⟩ = false := (HB24.out.frozen (p := ⟨bw, j, none⟩) Hbwl.out).trans Hcw.out.2
                      go_simp
                      clear cwn fwn
                      refine hK.out _ _ (HSst.out _ _ HB24.out) (fun hHeld => ?_)
                      clear hK K
                      obtain ⟨u25, hwn⟩ : ∃ u, u = u24.setCell ⟨bw, j, none⟩ (.slice A6_24 ((U2 j).length + 1) c6_24) := ⟨_, rfl⟩
                      rw [← hwn] at hHeld ⊢
                      have HE25 := hide hwn
                      clear hwn
                      try simp only [Act.put, List.setIfInBounds_toArray, List.set_cons_zero, List.set_cons_succ]
                      refine wpAnyH_done (by kernel_rfl) ?_ _
                      refine NoPanic.normal ?_
                      have Hfin : Hid (∃ B', Sp.Inv w rb bd bx bw gb q d n X' Y Ds2 B' (fun b => b = ob) u25 ∧ Blk u25 ob 68 ps[k].cells.toArray ∧ Blk u25 bz 3 #[.int .i64 (j : Int)]) := hide (by
                        have hb6 := HB24.out
                        have hown6 := HX24.out
                        have hm : Mods (fun b => b = bw) wy u25 := by rw [HE25.out]; exact (Mods.of_below hb6 (fun b => b = bw)).setCell (p := ⟨bw, j, none⟩) (.inl rfl) _
                        obtain ⟨csw, hcsn, hbwB, -⟩ := HIy.out.rows
                        have hrow : Wr u25 bw n (fun i => if i = j then U2 j ++ [s0] else U2 i) (fun g => B2 g ∨ (wy.heap.size ≤ g ∧ g < u25.heap.size)) := by
                          have hs7 : u24.heap.size ≤ u25.heap.size := by rw [HE25.out]; simp [World.setCell]
                          have h2 : ((U2 j ++ [s0]).flatMap Sec.cs) = (U2 j).flatMap Sec.cs ++ s0.cs := by simp
                          have h3 : (U2 j ++ [s0]).length = (U2 j).length + 1 := by simp
                          have hw := ((HIy.out.rows.below hb6).mono (B' := fun g => B2 g ∨ (wy.heap.size ≤ g ∧ g < u25.heap.size)) (fun g hg => .inl hg)).store (V := U2 j ++ [s0]) (A := A6_24) (c := c6_24) hjn (by rw [h2, h3]; exact hown6.1) (fun g hg => .inr ⟨hown6.2 g hg, by
                            have hl := own_lt hown6.1 g (by rw [own_blkOf]; exact hg)
                            omega⟩)
                          rw [h3] at hw
                          exact Eq.mp (congrArg (fun u => Wr u bw n (fun i => if i = j then U2 j ++ [s0] else U2 i) (fun g => B2 g ∨ (wy.heap.size ≤ g ∧ g < u25.heap.size))) HE25.out.symm) hw
                        refine ⟨_, HIy.out.wrote hm (hrow.congr (fun i _ => ?_)) (fun g hg => hg), KOy.out.mods hm (KOy.out.ne_type hbwB (by decide)), Kzy.out.mods hm (Kzy.out.ne_type hbwB (by decide))⟩
                        by_cases e : i = j
                        · rw [e, if_pos rfl, Hs0.out]; exact HgtY.out.1
                        · rw [if_neg e]; exact HgtY.out.2 i e)
                      clear hHeld
                      go_wp2_with fail
                      obtain ⟨B', hf1, hf2, hf3⟩ := Hfin.out
                      exact Sp.Post.normal (R := Sp.Grown w rb bd gb bx bw ob bz q d n (some ⟨ab, off, none⟩) ps.length cap1 k j Lj.length X' Y Ds2 ps[k].cells.toArray) ⟨B', rfl, hf1, hf2, hf3⟩
            · refine step_build1 rfl s0 (.tmp 81) rfl rfl ?_
              have hbA : Below wd.heap.size wd (wd.alloc (.cells s0.cs.toArray 34)) := (Below.refl _ wd).alloc (Nat.le_refl _) _
              have hA1 : (wd.alloc (.cells s0.cs.toArray 34)).heap[wd.heap.size]? = some (.cells s0.cs.toArray 34 (0, 0)) := Blk.new wd 34 s0.cs.toArray
              have hg1 : wy.heap.size ≤ wd.heap.size := HBd.out.size
              have hl1 : wd.heap.size < (wd.alloc (.cells s0.cs.toArray 34)).heap.size := by rw [World.size_alloc]; omega
              generalize wd.alloc (.cells s0.cs.toArray 34) = u26 at hbA hA1 hl1 ⊢
              have HB26 : Hid (Below wy.heap.size wy u26) := hide (HBd.out.trans (hbA.mono HBd.out.size))
              clear hbA
              generalize wd.heap.size = g1_26 at hA1 hg1 hl1 ⊢
              have HO26 := hide hA1
              have HM26 := hide (And.intro hg1 hl1)
              clear hA1 hg1 hl1
              refine hK.out _ _ (HSany.out _ HB26.out) (fun hHeld => ?_)
              clear hK K
              try simp only [Act.put, List.setIfInBounds_toArray]
              refine wpAnyH_ready (rs := [2]) (by kernel_rfl) (by simp) ?_
              refine AllReadyH.cons rfl (fun K hK => ?_) AllReadyH.nil
              · go_simp
                have hbA : Below u26.heap.size u26 (u26.alloc (.cells #[] 34)) := (Below.refl _ u26).alloc (Nat.le_refl _) _
                have hA0 : (u26.alloc (.cells #[] 34)).heap[u26.heap.size]? = some (.cells #[] 34 (0, 0)) := Blk.new u26 34 #[]
                have hg0 : wy.heap.size ≤ u26.heap.size := HB26.out.size
                have hl0 : u26.heap.size < (u26.alloc (.cells #[] 34)).heap.size := by rw [World.size_alloc]; omega
                have hne : g1_26 ≠ u26.heap.size := by have := HM26.out.2; omega
                have hO1 := (hbA.block _ HM26.out.2).trans HO26.out
                have hL1 : wy.heap.size ≤ g1_26 ∧ g1_26 < (u26.alloc (.cells #[] 34)).heap.size := ⟨HM26.out.1, by have := HM26.out.2; omega⟩
                generalize u26.alloc (.cells #[] 34) = u27 at hbA hA0 hl0 hO1 hL1 ⊢
                have HB27 : Hid (Below wy.heap.size wy u27) := hide (HB26.out.trans (hbA.mono HB26.out.size))
                clear hbA
                generalize u26.heap.size = g0_27 at hA0 hg0 hl0 hne ⊢
                have HZ27 := hide hA0
                have HL27 := hide (And.intro hg0 hl0)
                clear hA0 hg0 hl0
                have HO27 := hide hO1
                have HM27 := hide hL1
                have HN27 := hide hne
                clear hO1 hL1 hne
                refine hK.out _ _ (HSany.out _ HB27.out) (fun hHeld => ?_)
                clear hK K
                try simp only [Act.put, List.setIfInBounds_toArray, List.set_cons_zero, List.set_cons_succ]
                refine wpAnyH_ready (rs := [7]) (by kernel_rfl) (by simp) ?_
                refine AllReadyH.cons rfl (fun K hK => ?_) AllReadyH.nil
                · have hsrc := own_mods Hown.out.1 (Mods.of_below HB27.out (fun _ => False)) (fun _ _ h => h)
                  refine step_append_src u27 rfl _ _ _ rfl 0 34 i0 _ 64 64 Try.underlying47 Hinfo.out.1 Hinfo.out.2.1 Hinfo.out.2.2.1 Hinfo.out.2.2.2 rfl (by omega) (.slice (some ⟨g0_27, 0, none⟩) 0 0) 0 [] rfl (own_zero HZ27.out) A (U2 j).length c ((U2 j).flatMap Sec.cs) rfl hsrc (flat_one _) (by have := Hlen65.out; unfold maxLen; omega) (by have := Hlen65.out; omega) (Nat.zero_le _) ?_
                  intro v5 u28 hown5 hgrow5 hat5
                  obtain ⟨A5_28, c5_28, rfl⟩ := own_form hown5
                  simp only [Nat.zero_add, List.nil_append] at hown5
                  rw [Nat.zero_add] at hat5 ⊢
                  have HB28 : Hid (Below wy.heap.size wy u28) := hide (HB27.out.grown hgrow5 HB27.out.size (fun k hk => by simp [Value.ownBlock] at hk; have := HL27.out.1; omega))
                  have hq5 : ∀ g, blkOf A5_28 = some g → wy.heap.size ≤ g := fun g hg => by
                    rw [← own_blkOf A5_28 (U2 j).length c5_28] at hg
                    have h1 := HB27.out.size
                    have h2 := HL27.out.1
                    rcases hat5 with h | h
                    · rw [h] at hg; simp [Value.ownBlock] at hg; omega
                    · rw [h] at hg; simp only [Option.some.injEq] at hg; omega
                  have hO1 := (hgrow5.block _ HM27.out.2 (fun e => by simp [Value.ownBlock] at e; exact HN27.out (by first | exact e | exact e.symm))).trans HO27.out
                  have hL1 : wy.heap.size ≤ g1_26 ∧ g1_26 < u28.heap.size := ⟨HM27.out.1, Nat.lt_of_lt_of_le HM27.out.2 hgrow5.size⟩
                  have hn5 : ∀ g, blkOf A5_28 = some g → g ≠ g1_26 := fun g hg e => by
                    rw [← own_blkOf A5_28 (U2 j).length c5_28] at hg
                    have h1 := HM27.out.2
                    rcases hat5 with h | h
                    · rw [h] at hg
                      simp [Value.ownBlock] at hg
                      have := HN27.out
                      omega
                    · rw [h] at hg
                      simp only [Option.some.injEq] at hg
                      omega
                  have HO28 := hide hO1
                  have HM28 := hide hL1
                  have HP28 := hide (And.intro hown5 (fun g hg => And.intro (hq5 g hg) (hn5 g hg)))
                  have HW28 := hide (And.intro hown5 hq5)
                  clear hsrc hown5 hgrow5 hat5 hq5 hO1 hL1 hn5
                  refine hK.out _ _ (HSany.out _ HB28.out) (fun hHeld => ?_)
                  clear hK K
                  try simp only [Act.put, List.setIfInBounds_toArray]
                  refine wpAnyH_ready (rs := [11]) (by kernel_rfl) (by simp) ?_
                  refine AllReadyH.cons rfl (fun K hK => ?_) AllReadyH.nil
                  · refine step_append_src u28 rfl _ _ _ rfl 0 34 i0 _ 64 64 Try.underlying47 Hinfo.out.1 Hinfo.out.2.1 Hinfo.out.2.2.1 Hinfo.out.2.2.2 rfl (by omega) (.slice A5_28 (U2 j).length c5_28) (U2 j).length ((U2 j).flatMap Sec.cs) rfl HP28.out.1 (some ⟨g1_26, 0, none⟩) 1 1 s0.cs rfl (own_sec s0 HO28.out) s0.one (by have := Hlen65.out; unfold maxLen; omega) (by have := Hlen65.out; omega) (Nat.zero_le _) ?_
                    intro v6 u29 hown6 hgrow6 hat6
                    obtain ⟨A6_29, c6_29, rfl⟩ := own_form hown6
                    have hq5 : ∀ g, (Value.slice A5_28 (U2 j).length c5_28).ownBlock = some g → wy.heap.size ≤ g := fun g hg => (HP28.out.2 g (by rwa [own_blkOf] at hg)).1
                    have HB29 : Hid (Below wy.heap.size wy u29) := hide (HB28.out.grown hgrow6 HB28.out.size hq5)
                    have hq6 : ∀ g, blkOf A6_29 = some g → wy.heap.size ≤ g := fun g hg => by
                      rw [← own_blkOf A6_29 ((U2 j).length + 1) c6_29] at hg
                      have h1 := HB28.out.size
                      rcases hat6 with h | h
                      · rw [h] at hg; exact hq5 g hg
                      · rw [h] at hg; simp only [Option.some.injEq] at hg; omega
                    have HX29 := hide (And.intro hown6 hq6)
                    clear hown6 hgrow6 hat6 hq5 hq6
                    refine hK.out _ _ (HSany.out _ HB29.out) (fun hHeld => ?_)
                    clear hK K
                    try simp only [Act.put]
                    refine wpAnyH_take (i := 12) (oi := ⟨_, _, _, _, _, _⟩) (v := ?_) rfl (by kernel_rfl) (by kernel_rfl) (by kernel_rfl) (fun _ _ _ h => h) (Or.inl ⟨by rfl, ?_⟩) hHeld ?_
                    rotate_left
                    · intro w' hS
                      obtain ⟨x0, x1, x2⟩ := hS
                      go_simp
                      first | done | with_reducible rfl
                    try simp only [Act.put]
                    refine wpAnyH_ready (rs := [13]) (by kernel_rfl) (by simp) ?_
                    refine AllReadyH.cons rfl (fun K hK => ?_) AllReadyH.nil
                    · have cwn : u29.cell? ⟨bw, j, none⟩ = some (.slice A (U2 j).length c) := (HB29.out.cell (p := ⟨bw, j, none⟩) Hbwl.out).trans Hcw.out.1
                      have fwn : u29.frozen? ⟨bw, j, none⟩ = false := (HB29.out.frozen (p := ⟨bw, j, none⟩) Hbwl.out).trans Hcw.out.2
                      go_simp
                      clear cwn fwn
                      refine hK.out _ _ (HSst.out _ _ HB29.out) (fun hHeld => ?_)
                      clear hK K
                      obtain ⟨u30, hwn⟩ : ∃ u, u = u29.setCell ⟨bw, j, none⟩ (.slice A6_29 ((U2 j).length + 1) c6_29) := ⟨_, rfl⟩
                      rw [← hwn] at hHeld ⊢
                      have HE30 := hide hwn
                      clear hwn
                      try simp only [Act.put, List.setIfInBounds_toArray, List.set_cons_zero, List.set_cons_succ]
                      refine wpAnyH_done (by kernel_rfl) ?_ _
                      refine NoPanic.normal ?_
                      have Hfin : Hid (∃ B', Sp.Inv w rb bd bx bw gb q d n X' Y Ds2 B' (fun b => b = ob) u30 ∧ Blk u30 ob 68 ps[k].cells.toArray ∧ Blk u30 bz 3 #[.int .i64 (j : Int)]) := hide (by
                        have hb6 := HB29.out
                        have hown6 := HX29.out
                        have hm : Mods (fun b => b = bw) wy u30 := by rw [HE30.out]; exact (Mods.of_below hb6 (fun b => b = bw)).setCell (p := ⟨bw, j, none⟩) (.inl rfl) _
                        obtain ⟨csw, hcsn, hbwB, -⟩ := HIy.out.rows
                        have hrow : Wr u30 bw n (fun i => if i = j then U2 j ++ [s0] else U2 i) (fun g => B2 g ∨ (wy.heap.size ≤ g ∧ g < u30.heap.size)) := by
                          have hs7 : u29.heap.size ≤ u30.heap.size := by rw [HE30.out]; simp [World.setCell]
                          have h2 : ((U2 j ++ [s0]).flatMap Sec.cs) = (U2 j).flatMap Sec.cs ++ s0.cs := by simp
                          have h3 : (U2 j ++ [s0]).length = (U2 j).length + 1 := by simp
                          have hw := ((HIy.out.rows.below hb6).mono (B' := fun g => B2 g ∨ (wy.heap.size ≤ g ∧ g < u30.heap.size)) (fun g hg => .inl hg)).store (V := U2 j ++ [s0]) (A := A6_29) (c := c6_29) hjn (by rw [h2, h3]; exact hown6.1) (fun g hg => .inr ⟨hown6.2 g hg, by
                            have hl := own_lt hown6.1 g (by rw [own_blkOf]; exact hg)
                            omega⟩)
                          rw [h3] at hw
                          exact Eq.mp (congrArg (fun u => Wr u bw n (fun i => if i = j then U2 j ++ [s0] else U2 i) (fun g => B2 g ∨ (wy.heap.size ≤ g ∧ g < u30.heap.size))) HE30.out.symm) hw
                        refine ⟨_, HIy.out.wrote hm (hrow.congr (fun i _ => ?_)) (fun g hg => hg), KOy.out.mods hm (KOy.out.ne_type hbwB (by decide)), Kzy.out.mods hm (Kzy.out.ne_type hbwB (by decide))⟩
                        by_cases e : i = j
                        · rw [e, if_pos rfl, Hs0.out]; exact HgtY.out.1
                        · rw [if_neg e]; exact HgtY.out.2 i e)
                      clear hHeld
                      go_wp2_with fail
                      obtain ⟨B', hf1, hf2, hf3⟩ := Hfin.out
                      exact Sp.Post.normal (R := Sp.Grown w rb bd gb bx bw ob bz q d n (some ⟨ab, off, none⟩) ps.length cap1 k j Lj.length X' Y Ds2 ps[k].cells.toArray) ⟨B', rfl, hf1, hf2, hf3⟩
          · refine step_build1 rfl s0 (.tmp 81) rfl rfl ?_
            have hbA : Below wd.heap.size wd (wd.alloc (.cells s0.cs.toArray 34)) := (Below.refl _ wd).alloc (Nat.le_refl _) _
            have hA1 : (wd.alloc (.cells s0.cs.toArray 34)).heap[wd.heap.size]? = some (.cells s0.cs.toArray 34 (0, 0)) := Blk.new wd 34 s0.cs.toArray
            have hg1 : wy.heap.size ≤ wd.heap.size := HBd.out.size
            have hl1 : wd.heap.size < (wd.alloc (.cells s0.cs.toArray 34)).heap.size := by rw [World.size_alloc]; omega
            generalize wd.alloc (.cells s0.cs.toArray 34) = u31 at hbA hA1 hl1 ⊢
            have HB31 : Hid (Below wy.heap.size wy u31) := hide (HBd.out.trans (hbA.mono HBd.out.size))
            clear hbA
            generalize wd.heap.size = g1_31 at hA1 hg1 hl1 ⊢
            have HO31 := hide hA1
            have HM31 := hide (And.intro hg1 hl1)
            clear hA1 hg1 hl1
            refine hK.out _ _ (HSany.out _ HB31.out) (fun hHeld => ?_)
            clear hK K
            try simp only [Act.put, List.setIfInBounds_toArray]
            refine wpAnyH_ready (rs := [2, 6]) (by kernel_rfl) (by simp) ?_
            refine AllReadyH.cons rfl (fun K hK => ?_) (AllReadyH.cons rfl (fun K hK => ?_) AllReadyH.nil)
            · go_simp
              have hbA : Below u31.heap.size u31 (u31.alloc (.cells #[] 34)) := (Below.refl _ u31).alloc (Nat.le_refl _) _
              have hA0 : (u31.alloc (.cells #[] 34)).heap[u31.heap.size]? = some (.cells #[] 34 (0, 0)) := Blk.new u31 34 #[]
              have hg0 : wy.heap.size ≤ u31.heap.size := HB31.out.size
              have hl0 : u31.heap.size < (u31.alloc (.cells #[] 34)).heap.size := by rw [World.size_alloc]; omega
              have hne : g1_31 ≠ u31.heap.size := by have := HM31.out.2; omega
              have hO1 := (hbA.block _ HM31.out.2).trans HO31.out
              have hL1 : wy.heap.size ≤ g1_31 ∧ g1_31 < (u31.alloc (.cells #[] 34)).heap.size := ⟨HM31.out.1, by have := HM31.out.2; omega⟩
              generalize u31.alloc (.cells #[] 34) = u32 at hbA hA0 hl0 hO1 hL1 ⊢
              have HB32 : Hid (Below wy.heap.size wy u32) := hide (HB31.out.trans (hbA.mono HB31.out.size))
              clear hbA
              generalize u31.heap.size = g0_32 at hA0 hg0 hl0 hne ⊢
              have HZ32 := hide hA0
              have HL32 := hide (And.intro hg0 hl0)
              clear hA0 hg0 hl0
              have HO32 := hide hO1
              have HM32 := hide hL1
              have HN32 := hide hne
              clear hO1 hL1 hne
              refine hK.out _ _ (HSany.out _ HB32.out) (fun hHeld => ?_)
              clear hK K
              try simp only [Act.put, List.setIfInBounds_toArray, List.set_cons_zero, List.set_cons_succ]
              refine wpAnyH_ready (rs := [6]) (by kernel_rfl) (by simp) ?_
              refine AllReadyH.cons rfl (fun K hK => ?_) AllReadyH.nil
              · have cwn : u32.cell? ⟨bw, j, none⟩ = some (.slice A (U2 j).length c) := (HB32.out.cell (p := ⟨bw, j, none⟩) Hbwl.out).trans Hcw.out.1
                go_simp
                clear cwn
                refine hK.out _ _ (HSany.out _ HB32.out) (fun hHeld => ?_)
                clear hK K
                try simp only [Act.put, List.setIfInBounds_toArray, List.set_cons_zero, List.set_cons_succ]
                refine wpAnyH_ready (rs := [7]) (by kernel_rfl) (by simp) ?_
                refine AllReadyH.cons rfl (fun K hK => ?_) AllReadyH.nil
                · have hsrc := own_mods Hown.out.1 (Mods.of_below HB32.out (fun _ => False)) (fun _ _ h => h)
                  refine step_append_src u32 rfl _ _ _ rfl 0 34 i0 _ 64 64 Try.underlying47 Hinfo.out.1 Hinfo.out.2.1 Hinfo.out.2.2.1 Hinfo.out.2.2.2 rfl (by omega) (.slice (some ⟨g0_32, 0, none⟩) 0 0) 0 [] rfl (own_zero HZ32.out) A (U2 j).length c ((U2 j).flatMap Sec.cs) rfl hsrc (flat_one _) (by have := Hlen65.out; unfold maxLen; omega) (by have := Hlen65.out; omega) (Nat.zero_le _) ?_
                  intro v5 u34 hown5 hgrow5 hat5
                  obtain ⟨A5_34, c5_34, rfl⟩ := own_form hown5
                  simp only [Nat.zero_add, List.nil_append] at hown5
                  rw [Nat.zero_add] at hat5 ⊢
                  have HB34 : Hid (Below wy.heap.size wy u34) := hide (HB32.out.grown hgrow5 HB32.out.size (fun k hk => by simp [Value.ownBlock] at hk; have := HL32.out.1; omega))
                  have hq5 : ∀ g, blkOf A5_34 = some g → wy.heap.size ≤ g := fun g hg => by
                    rw [← own_blkOf A5_34 (U2 j).length c5_34] at hg
                    have h1 := HB32.out.size
                    have h2 := HL32.out.1
                    rcases hat5 with h | h
                    · rw [h] at hg; simp [Value.ownBlock] at hg; omega
                    · rw [h] at hg; simp only [Option.some.injEq] at hg; omega
                  have hO1 := (hgrow5.block _ HM32.out.2 (fun e => by simp [Value.ownBlock] at e; exact HN32.out (by first | exact e | exact e.symm))).trans HO32.out
                  have hL1 : wy.heap.size ≤ g1_31 ∧ g1_31 < u34.heap.size := ⟨HM32.out.1, Nat.lt_of_lt_of_le HM32.out.2 hgrow5.size⟩
                  have hn5 : ∀ g, blkOf A5_34 = some g → g ≠ g1_31 := fun g hg e => by
                    rw [← own_blkOf A5_34 (U2 j).length c5_34] at hg
                    have h1 := HM32.out.2
                    rcases hat5 with h | h
                    · rw [h] at hg
                      simp [Value.ownBlock] at hg
                      have := HN32.out
                      omega
                    · rw [h] at hg
                      simp only [Option.some.injEq] at hg
                      omega
                  have HO34 := hide hO1
                  have HM34 := hide hL1
                  have HP34 := hide (And.intro hown5 (fun g hg => And.intro (hq5 g hg) (hn5 g hg)))
                  have HW34 := hide (And.intro hown5 hq5)
                  clear hsrc hown5 hgrow5 hat5 hq5 hO1 hL1 hn5
                  refine hK.out _ _ (HSany.out _ HB34.out) (fun hHeld => ?_)
                  clear hK K
                  try simp only [Act.put, List.setIfInBounds_toArray]
                  refine wpAnyH_ready (rs := [11]) (by kernel_rfl) (by simp) ?_
                  refine AllReadyH.cons rfl (fun K hK => ?_) AllReadyH.nil
                  · refine step_append_src u34 rfl _ _ _ rfl 0 34 i0 _ 64 64 Try.underlying47 Hinfo.out.1 Hinfo.out.2.1 Hinfo.out.2.2.1 Hinfo.out.2.2.2 rfl (by omega) (.slice A5_34 (U2 j).length c5_34) (U2 j).length ((U2 j).flatMap Sec.cs) rfl HP34.out.1 (some ⟨g1_31, 0, none⟩) 1 1 s0.cs rfl (own_sec s0 HO34.out) s0.one (by have := Hlen65.out; unfold maxLen; omega) (by have := Hlen65.out; omega) (Nat.zero_le _) ?_
                    intro v6 u35 hown6 hgrow6 hat6
                    obtain ⟨A6_35, c6_35, rfl⟩ := own_form hown6
                    have hq5 : ∀ g, (Value.slice A5_34 (U2 j).length c5_34).ownBlock = some g → wy.heap.size ≤ g := fun g hg => (HP34.out.2 g (by rwa [own_blkOf] at hg)).1
                    have HB35 : Hid (Below wy.heap.size wy u35) := hide (HB34.out.grown hgrow6 HB34.out.size hq5)
                    have hq6 : ∀ g, blkOf A6_35 = some g → wy.heap.size ≤ g := fun g hg => by
                      rw [← own_blkOf A6_35 ((U2 j).length + 1) c6_35] at hg
                      have h1 := HB34.out.size
                      rcases hat6 with h | h
                      · rw [h] at hg; exact hq5 g hg
                      · rw [h] at hg; simp only [Option.some.injEq] at hg; omega
                    have HX35 := hide (And.intro hown6 hq6)
                    clear hown6 hgrow6 hat6 hq5 hq6
                    refine hK.out _ _ (HSany.out _ HB35.out) (fun hHeld => ?_)
                    clear hK K
                    try simp only [Act.put]
                    refine wpAnyH_take (i := 12) (oi := ⟨_, _, _, _, _, _⟩) (v := ?_) rfl (by kernel_rfl) (by kernel_rfl) (by kernel_rfl) (fun _ _ _ h => h) (Or.inl ⟨by rfl, ?_⟩) hHeld ?_
                    rotate_left
                    · intro w' hS
                      obtain ⟨x0, x1, x2⟩ := hS
                      go_simp
                      first | done | with_reducible rfl
                    try simp only [Act.put]
                    refine wpAnyH_ready (rs := [13]) (by kernel_rfl) (by simp) ?_
                    refine AllReadyH.cons rfl (fun K hK => ?_) AllReadyH.nil
                    · have cwn : u35.cell? ⟨bw, j, none⟩ = some (.slice A (U2 j).length c) := (HB35.out.cell (p := ⟨bw, j, none⟩) Hbwl.out).trans Hcw.out.1
                      have fwn : u35.frozen? ⟨bw, j, none⟩ = false := (HB35.out.frozen (p := ⟨bw, j, none⟩) Hbwl.out).trans Hcw.out.2
                      go_simp
                      clear cwn fwn
                      refine hK.out _ _ (HSst.out _ _ HB35.out) (fun hHeld => ?_)
                      clear hK K
                      obtain ⟨u36, hwn⟩ : ∃ u, u = u35.setCell ⟨bw, j, none⟩ (.slice A6_35 ((U2 j).length + 1) c6_35) := ⟨_, rfl⟩
                      rw [← hwn] at hHeld ⊢
                      have HE36 := hide hwn
                      clear hwn
                      try simp only [Act.put, List.setIfInBounds_toArray, List.set_cons_zero, List.set_cons_succ]
                      refine wpAnyH_done (by kernel_rfl) ?_ _
                      refine NoPanic.normal ?_
                      have Hfin : Hid (∃ B', Sp.Inv w rb bd bx bw gb q d n X' Y Ds2 B' (fun b => b = ob) u36 ∧ Blk u36 ob 68 ps[k].cells.toArray ∧ Blk u36 bz 3 #[.int .i64 (j : Int)]) := hide (by
                        have hb6 := HB35.out
                        have hown6 := HX35.out
                        have hm : Mods (fun b => b = bw) wy u36 := by rw [HE36.out]; exact (Mods.of_below hb6 (fun b => b = bw)).setCell (p := ⟨bw, j, none⟩) (.inl rfl) _
                        obtain ⟨csw, hcsn, hbwB, -⟩ := HIy.out.rows
                        have hrow : Wr u36 bw n (fun i => if i = j then U2 j ++ [s0] else U2 i) (fun g => B2 g ∨ (wy.heap.size ≤ g ∧ g < u36.heap.size)) := by
                          have hs7 : u35.heap.size ≤ u36.heap.size := by rw [HE36.out]; simp [World.setCell]
                          have h2 : ((U2 j ++ [s0]).flatMap Sec.cs) = (U2 j).flatMap Sec.cs ++ s0.cs := by simp
                          have h3 : (U2 j ++ [s0]).length = (U2 j).length + 1 := by simp
                          have hw := ((HIy.out.rows.below hb6).mono (B' := fun g => B2 g ∨ (wy.heap.size ≤ g ∧ g < u36.heap.size)) (fun g hg => .inl hg)).store (V := U2 j ++ [s0]) (A := A6_35) (c := c6_35) hjn (by rw [h2, h3]; exact hown6.1) (fun g hg => .inr ⟨hown6.2 g hg, by
                            have hl := own_lt hown6.1 g (by rw [own_blkOf]; exact hg)
                            omega⟩)
                          rw [h3] at hw
                          exact Eq.mp (congrArg (fun u => Wr u bw n (fun i => if i = j then U2 j ++ [s0] else U2 i) (fun g => B2 g ∨ (wy.heap.size ≤ g ∧ g < u36.heap.size))) HE36.out.symm) hw
                        refine ⟨_, HIy.out.wrote hm (hrow.congr (fun i _ => ?_)) (fun g hg => hg), KOy.out.mods hm (KOy.out.ne_type hbwB (by decide)), Kzy.out.mods hm (Kzy.out.ne_type hbwB (by decide))⟩
                        by_cases e : i = j
                        · rw [e, if_pos rfl, Hs0.out]; exact HgtY.out.1
                        · rw [if_neg e]; exact HgtY.out.2 i e)
                      clear hHeld
                      go_wp2_with fail
                      obtain ⟨B', hf1, hf2, hf3⟩ := Hfin.out
                      exact Sp.Post.normal (R := Sp.Grown w rb bd gb bx bw ob bz q d n (some ⟨ab, off, none⟩) ps.length cap1 k j Lj.length X' Y Ds2 ps[k].cells.toArray) ⟨B', rfl, hf1, hf2, hf3⟩
            · have cwn : u31.cell? ⟨bw, j, none⟩ = some (.slice A (U2 j).length c) := (HB31.out.cell (p := ⟨bw, j, none⟩) Hbwl.out).trans Hcw.out.1
              go_simp
              clear cwn
              refine hK.out _ _ (HSany.out _ HB31.out) (fun hHeld => ?_)
              clear hK K
              try simp only [Act.put, List.setIfInBounds_toArray, List.set_cons_zero, List.set_cons_succ]
              refine wpAnyH_ready (rs := [2]) (by kernel_rfl) (by simp) ?_
              refine AllReadyH.cons rfl (fun K hK => ?_) AllReadyH.nil
              · go_simp
                have hbA : Below u31.heap.size u31 (u31.alloc (.cells #[] 34)) := (Below.refl _ u31).alloc (Nat.le_refl _) _
                have hA0 : (u31.alloc (.cells #[] 34)).heap[u31.heap.size]? = some (.cells #[] 34 (0, 0)) := Blk.new u31 34 #[]
                have hg0 : wy.heap.size ≤ u31.heap.size := HB31.out.size
                have hl0 : u31.heap.size < (u31.alloc (.cells #[] 34)).heap.size := by rw [World.size_alloc]; omega
                have hne : g1_31 ≠ u31.heap.size := by have := HM31.out.2; omega
                have hO1 := (hbA.block _ HM31.out.2).trans HO31.out
                have hL1 : wy.heap.size ≤ g1_31 ∧ g1_31 < (u31.alloc (.cells #[] 34)).heap.size := ⟨HM31.out.1, by have := HM31.out.2; omega⟩
                generalize u31.alloc (.cells #[] 34) = u38 at hbA hA0 hl0 hO1 hL1 ⊢
                have HB38 : Hid (Below wy.heap.size wy u38) := hide (HB31.out.trans (hbA.mono HB31.out.size))
                clear hbA
                generalize u31.heap.size = g0_38 at hA0 hg0 hl0 hne ⊢
                have HZ38 := hide hA0
                have HL38 := hide (And.intro hg0 hl0)
                clear hA0 hg0 hl0
                have HO38 := hide hO1
                have HM38 := hide hL1
                have HN38 := hide hne
                clear hO1 hL1 hne
                refine hK.out _ _ (HSany.out _ HB38.out) (fun hHeld => ?_)
                clear hK K
                try simp only [Act.put, List.setIfInBounds_toArray, List.set_cons_zero, List.set_cons_succ]
                refine wpAnyH_ready (rs := [7]) (by kernel_rfl) (by simp) ?_
                refine AllReadyH.cons rfl (fun K hK => ?_) AllReadyH.nil
                · have hsrc := own_mods Hown.out.1 (Mods.of_below HB38.out (fun _ => False)) (fun _ _ h => h)
                  refine step_append_src u38 rfl _ _ _ rfl 0 34 i0 _ 64 64 Try.underlying47 Hinfo.out.1 Hinfo.out.2.1 Hinfo.out.2.2.1 Hinfo.out.2.2.2 rfl (by omega) (.slice (some ⟨g0_38, 0, none⟩) 0 0) 0 [] rfl (own_zero HZ38.out) A (U2 j).length c ((U2 j).flatMap Sec.cs) rfl hsrc (flat_one _) (by have := Hlen65.out; unfold maxLen; omega) (by have := Hlen65.out; omega) (Nat.zero_le _) ?_
                  intro v5 u39 hown5 hgrow5 hat5
                  obtain ⟨A5_39, c5_39, rfl⟩ := own_form hown5
                  simp only [Nat.zero_add, List.nil_append] at hown5
                  rw [Nat.zero_add] at hat5 ⊢
                  have HB39 : Hid (Below wy.heap.size wy u39) := hide (HB38.out.grown hgrow5 HB38.out.size (fun k hk => by simp [Value.ownBlock] at hk; have := HL38.out.1; omega))
                  have hq5 : ∀ g, blkOf A5_39 = some g → wy.heap.size ≤ g := fun g hg => by
                    rw [← own_blkOf A5_39 (U2 j).length c5_39] at hg
                    have h1 := HB38.out.size
                    have h2 := HL38.out.1
                    rcases hat5 with h | h
                    · rw [h] at hg; simp [Value.ownBlock] at hg; omega
                    · rw [h] at hg; simp only [Option.some.injEq] at hg; omega
                  have hO1 := (hgrow5.block _ HM38.out.2 (fun e => by simp [Value.ownBlock] at e; exact HN38.out (by first | exact e | exact e.symm))).trans HO38.out
                  have hL1 : wy.heap.size ≤ g1_31 ∧ g1_31 < u39.heap.size := ⟨HM38.out.1, Nat.lt_of_lt_of_le HM38.out.2 hgrow5.size⟩
                  have hn5 : ∀ g, blkOf A5_39 = some g → g ≠ g1_31 := fun g hg e => by
                    rw [← own_blkOf A5_39 (U2 j).length c5_39] at hg
                    have h1 := HM38.out.2
                    rcases hat5 with h | h
                    · rw [h] at hg
                      simp [Value.ownBlock] at hg
                      have := HN38.out
                      omega
                    · rw [h] at hg
                      simp only [Option.some.injEq] at hg
                      omega
                  have HO39 := hide hO1
                  have HM39 := hide hL1
                  have HP39 := hide (And.intro hown5 (fun g hg => And.intro (hq5 g hg) (hn5 g hg)))
                  have HW39 := hide (And.intro hown5 hq5)
                  clear hsrc hown5 hgrow5 hat5 hq5 hO1 hL1 hn5
                  refine hK.out _ _ (HSany.out _ HB39.out) (fun hHeld => ?_)
                  clear hK K
                  try simp only [Act.put, List.setIfInBounds_toArray]
                  refine wpAnyH_ready (rs := [11]) (by kernel_rfl) (by simp) ?_
                  refine AllReadyH.cons rfl (fun K hK => ?_) AllReadyH.nil
                  · refine step_append_src u39 rfl _ _ _ rfl 0 34 i0 _ 64 64 Try.underlying47 Hinfo.out.1 Hinfo.out.2.1 Hinfo.out.2.2.1 Hinfo.out.2.2.2 rfl (by omega) (.slice A5_39 (U2 j).length c5_39) (U2 j).length ((U2 j).flatMap Sec.cs) rfl HP39.out.1 (some ⟨g1_31, 0, none⟩) 1 1 s0.cs rfl (own_sec s0 HO39.out) s0.one (by have := Hlen65.out; unfold maxLen; omega) (by have := Hlen65.out; omega) (Nat.zero_le _) ?_
                    intro v6 u40 hown6 hgrow6 hat6
                    obtain ⟨A6_40, c6_40, rfl⟩ := own_form hown6
                    have hq5 : ∀ g, (Value.slice A5_39 (U2 j).length c5_39).ownBlock = some g → wy.heap.size ≤ g := fun g hg => (HP39.out.2 g (by rwa [own_blkOf] at hg)).1
                    have HB40 : Hid (Below wy.heap.size wy u40) := hide (HB39.out.grown hgrow6 HB39.out.size hq5)
                    have hq6 : ∀ g, blkOf A6_40 = some g → wy.heap.size ≤ g := fun g hg => by
                      rw [← own_blkOf A6_40 ((U2 j).length + 1) c6_40] at hg
                      have h1 := HB39.out.size
                      rcases hat6 with h | h
                      · rw [h] at hg; exact hq5 g hg
                      · rw [h] at hg; simp only [Option.some.injEq] at hg; omega
                    have HX40 := hide (And.intro hown6 hq6)
                    clear hown6 hgrow6 hat6 hq5 hq6
                    refine hK.out _ _ (HSany.out _ HB40.out) (fun hHeld => ?_)
                    clear hK K
                    try simp only [Act.put]
                    refine wpAnyH_take (i := 12) (oi := ⟨_, _, _, _, _, _⟩) (v := ?_) rfl (by kernel_rfl) (by kernel_rfl) (by kernel_rfl) (fun _ _ _ h => h) (Or.inl ⟨by rfl, ?_⟩) hHeld ?_
                    rotate_left
                    · intro w' hS
                      obtain ⟨x0, x1, x2⟩ := hS
                      go_simp
                      first | done | with_reducible rfl
                    try simp only [Act.put]
                    refine wpAnyH_ready (rs := [13]) (by kernel_rfl) (by simp) ?_
                    refine AllReadyH.cons rfl (fun K hK => ?_) AllReadyH.nil
                    · have cwn : u40.cell? ⟨bw, j, none⟩ = some (.slice A (U2 j).length c) := (HB40.out.cell (p := ⟨bw, j, none⟩) Hbwl.out).trans Hcw.out.1
                      have fwn : u40.frozen? ⟨bw, j, none⟩ = false := (HB40.out.frozen (p := ⟨bw, j, none⟩) Hbwl.out).trans Hcw.out.2
                      go_simp
                      clear cwn fwn
                      refine hK.out _ _ (HSst.out _ _ HB40.out) (fun hHeld => ?_)
                      clear hK K
                      obtain ⟨u41, hwn⟩ : ∃ u, u = u40.setCell ⟨bw, j, none⟩ (.slice A6_40 ((U2 j).length + 1) c6_40) := ⟨_, rfl⟩
                      rw [← hwn] at hHeld ⊢
                      have HE41 := hide hwn
                      clear hwn
                      try simp only [Act.put, List.setIfInBounds_toArray, List.set_cons_zero, List.set_cons_succ]
                      refine wpAnyH_done (by kernel_rfl) ?_ _
                      refine NoPanic.normal ?_
                      have Hfin : Hid (∃ B', Sp.Inv w rb bd bx bw gb q d n X' Y Ds2 B' (fun b => b = ob) u41 ∧ Blk u41 ob 68 ps[k].cells.toArray ∧ Blk u41 bz 3 #[.int .i64 (j : Int)]) := hide (by
                        have hb6 := HB40.out
                        have hown6 := HX40.out
                        have hm : Mods (fun b => b = bw) wy u41 := by rw [HE41.out]; exact (Mods.of_below hb6 (fun b => b = bw)).setCell (p := ⟨bw, j, none⟩) (.inl rfl) _
                        obtain ⟨csw, hcsn, hbwB, -⟩ := HIy.out.rows
                        have hrow : Wr u41 bw n (fun i => if i = j then U2 j ++ [s0] else U2 i) (fun g => B2 g ∨ (wy.heap.size ≤ g ∧ g < u41.heap.size)) := by
                          have hs7 : u40.heap.size ≤ u41.heap.size := by rw [HE41.out]; simp [World.setCell]
                          have h2 : ((U2 j ++ [s0]).flatMap Sec.cs) = (U2 j).flatMap Sec.cs ++ s0.cs := by simp
                          have h3 : (U2 j ++ [s0]).length = (U2 j).length + 1 := by simp
                          have hw := ((HIy.out.rows.below hb6).mono (B' := fun g => B2 g ∨ (wy.heap.size ≤ g ∧ g < u41.heap.size)) (fun g hg => .inl hg)).store (V := U2 j ++ [s0]) (A := A6_40) (c := c6_40) hjn (by rw [h2, h3]; exact hown6.1) (fun g hg => .inr ⟨hown6.2 g hg, by
                            have hl := own_lt hown6.1 g (by rw [own_blkOf]; exact hg)
                            omega⟩)
                          rw [h3] at hw
                          exact Eq.mp (congrArg (fun u => Wr u bw n (fun i => if i = j then U2 j ++ [s0] else U2 i) (fun g => B2 g ∨ (wy.heap.size ≤ g ∧ g < u41.heap.size))) HE41.out.symm) hw
                        refine ⟨_, HIy.out.wrote hm (hrow.congr (fun i _ => ?_)) (fun g hg => hg), KOy.out.mods hm (KOy.out.ne_type hbwB (by decide)), Kzy.out.mods hm (Kzy.out.ne_type hbwB (by decide))⟩
                        by_cases e : i = j
                        · rw [e, if_pos rfl, Hs0.out]; exact HgtY.out.1
                        · rw [if_neg e]; exact HgtY.out.2 i e)
                      clear hHeld
                      go_wp2_with fail
                      obtain ⟨B', hf1, hf2, hf3⟩ := Hfin.out
                      exact Sp.Post.normal (R := Sp.Grown w rb bd gb bx bw ob bz q d n (some ⟨ab, off, none⟩) ps.length cap1 k j Lj.length X' Y Ds2 ps[k].cells.toArray) ⟨B', rfl, hf1, hf2, hf3⟩
        · have dg : decide (((U2 j).length : Int) < (Lj.length : Int)) = false := decide_eq_false (by omega)
          have dg2 : decide ((U2 j).length < Lj.length) = false := decide_eq_false hgt
          have HYn : Hid (∀ i, Y i = U2 i) := hide (fun i => by
            rw [HY.out]
            dsimp only
            by_cases e : i = j
            · rw [if_pos e, if_neg hgt, e]
            · rw [if_neg e])
          go_wp2_with fail
          exact Sp.Post.normal (R := Sp.Grown w rb bd gb bx bw ob bz q d n (some ⟨ab, off, none⟩) ps.length cap1 k j Lj.length X' Y Ds2 ps[k].cells.toArray) ⟨B2, rfl, HIy.out.wrote (Mods.refl _ _) (HIy.out.rows.congr (fun i _ => HYn.out i)) (fun g hg => .inl hg), KOy.out, Kzy.out⟩
      · rintro a' w' ⟨B', ha', hI', hko', hkz'⟩
        generalize (fun i => a'.tmps.getD i undef) = v3 at ha'
        subst ha'
        unfold zFrame
        obtain ⟨A3, c3, cw3, fw3, hown3, hB3⟩ := hI'.rows.at_ hjn
        have HYj : Hid (V j = (Y j).take Lj.length ∧ Lj.length ≤ (Y j).length ∧ (∀ i, i ≠ j → Y i = U2 i)) := hide (by
          have e1 : U2 j = U j := Hlo.out.2 j (Nat.le_refl _)
          have e2 : Y j = if (U j).length < Lj.length then U j ++ [ps[k].o.s] else U j := by rw [HY.out]; dsimp only; rw [if_pos rfl, e1]
          have e3 : V j = (Y j).take Lj.length := by rw [HVj.out.1, e2]; rfl
          refine ⟨e3, ?_, fun i hi => by rw [HY.out]; dsimp only; rw [if_neg hi]⟩
          have h1 := HVj.out.2.1.len
          rw [e3, List.length_take] at h1
          omega)
        have hmc : Lj.length ≤ c3 := Nat.le_trans HYj.out.2.1 (own_cap hown3).1
        have hA3 : ∀ ad, A3 = some ad → ad.add 0 = ad := fun ad e => by
          rcases hown3.2 with ⟨h', _⟩ | ⟨g, cap, cur, h', _⟩
          · simp only [Value.slice.injEq] at h'
            rw [h'.1] at e
            cases e
          · simp only [Value.slice.injEq] at h'
            rw [h'.1] at e
            cases e
            rfl
        have HI3 := hide hI'
        have KO3 := hide hko'
        have Kz3 := hide hkz'
        have Hown3 := hide (And.intro hown3 hB3)
        have HA3 := hide hA3
        have Hmc := hide hmc
        have cx := HI3.out.sl.cell 0
        have cz := Kz3.out.cell 0
        have dj : decide (n ≤ j) = false := decide_eq_false (by omega)
        clear hI' hko' hkz' hown3 hB3 hA3 hmc
        go_upto_region 19 with (fail)
        refine Reg.wp_region_reads (fun u => u.cell? ⟨bx, 0, none⟩ = some (.slice (some ⟨bw, 0, none⟩) n n) ∧ u.cell? ⟨bz, 0, none⟩ = some (.int .i64 (j : Int)) ∧ u.cell? ⟨bw, j, none⟩ = some (.slice A3 (Y j).length c3)) 8 9 (by decide +kernel) (by decide +kernel) ⟨cx, cz, cw3⟩ ?_
        simp only [List.take_succ_cons, List.take_zero, List.drop_succ_cons, List.drop_zero]
        iterate 8
          first
          | (refine Reg.wpReads_stepG (by first | rfl | decide) (fun u hS => exec_slice_to (.tmp 90) (.tmp 91) Hmc.out HA3.out rfl rfl rfl) (fun K hK => ?_)
             go_simp
             refine hK _ ?_
             clear hK K)
          | (apply Reg.wpReads_stepG (by first | rfl | decide)
             · intro u hS
               obtain ⟨x0, x1, x2⟩ := hS
               go_simp
               first | done | rfl
             intro K hK
             go_simp
             refine hK _ ?_
             clear hK K)
        refine Reg.wpReads_nil ?_
        have cxd : w'.drew.cell? ⟨bx, 0, none⟩ = some (.slice (some ⟨bw, 0, none⟩) n n) := cx
        have czd : w'.drew.cell? ⟨bz, 0, none⟩ = some (.int .i64 (j : Int)) := cz
        have cwd : w'.drew.cell? ⟨bw, j, none⟩ = some (.slice A3 (Y j).length c3) := cw3
        have fwd : w'.drew.frozen? ⟨bw, j, none⟩ = false := fw3
        refine Reg.wpTail_step rfl (fun K hK => ?_)
        go_simp
        refine hK _ _ (fun _ => ⟨cxd, czd, cwd⟩) ?_
        clear hK K
        refine Reg.wpTail_list _ _ _ _ (by omega) ?_
        have hbd : Below w'.heap.size w' w'.drew := (Below.refl _ w').drew
        have HId := hide (HI3.out.below hbd)
        have KOd : Hid (Blk w'.drew ob 68 ps[k].cells.toArray) := hide KO3.out
        have Kzd : Hid (Blk w'.drew bz 3 #[.int .i64 (j : Int)]) := hide Kz3.out
        have Hownd := hide (own_mods Hown3.out.1 (Mods.of_below hbd (fun _ => False)) (fun _ _ h => h))
        clear cx cz cw3 fw3 hbd
        generalize w'.drew = wd at HId KOd Kzd Hownd cxd czd cwd fwd ⊢
        go_upto_region 20 with (fail)
        clear cxd czd cwd fwd
        have hm4 : Mods (fun b => b = bw) wd (wd.setCell ⟨bw, j, none⟩ (.slice A3 Lj.length c3)) := (Mods.refl (fun b => b = bw) wd).setCell (p := ⟨bw, j, none⟩) (.inl rfl) _
        have hlV : (V j).length = Lj.length := HVj.out.2.1.len
        have hrow4 : Wr (wd.setCell ⟨bw, j, none⟩ (.slice A3 Lj.length c3)) bw n (fun i => if i = j then V j else Y i) B' := by
          have hne3 : A3 = none → Lj.length = 0 := fun e => by have := (own_cap Hownd.out).2.2 e; have := HYj.out.2.1; omega
          have h1 := own_take64 Hownd.out HYj.out.2.1 hne3
          rw [← flat_take, ← HYj.out.1, ← hlV] at h1
          have h2 := HId.out.rows.store hjn h1 Hown3.out.2
          rw [hlV] at h2
          exact h2
        obtain ⟨csw, hcsn, hbwB, -⟩ := HId.out.rows
        have HI4 := hide (HId.out.wrote hm4 hrow4 (fun g hg => .inl hg))
        have KO4 := hide (KOd.out.mods hm4 (KOd.out.ne_type hbwB (by decide)))
        have Kz4 := hide (Kzd.out.mods hm4 (Kzd.out.ne_type hbwB (by decide)))
        clear hm4 hrow4 hcsn hbwB csw hlV HI3 KO3 Kz3 Hown3 HA3 Hmc HId KOd Kzd Hownd
        generalize wd.setCell ⟨bw, j, none⟩ (.slice A3 Lj.length c3) = w4 at HI4 KO4 Kz4 ⊢
        refine NoPanic.normal ?_
        obtain ⟨F4, FD4, A4x, c4x, bs4, Fs4, mb4, n4, Ac4, cc4, Ah4, ch4, hd4⟩ := HI4.out.rel.drv
        have Hd4 := hide hd4
        have hl4 := hd4.lt
        have hjX2 : j < X'.D.zs.length := by rw [Hlen'.out]; exact hjn
        have Hlook := hide (fun W (hb : Below w4.heap.size w4 W) => ItS.look_in (hd4.below hb).dev j hjX2 w4.heap.size (fun b hb2 => hl4 b (hd4.inF.2.2.1 b hb2)))
        rw [← HVj.out.2.2.1] at Hlook
        have Hdev := hide (fun W (hb : Below w4.heap.size w4 W) => DV.device_any (hd4.below hb))
        have cd := HI4.out.box.cell 0
        have cz := Kz4.out.cell 0
        have hbdl : bd < w4.heap.size := HI4.out.box.lt
        have hbzl : bz < w4.heap.size := Kz4.out.lt
        have HSany : Hid (∀ u, Below w4.heap.size w4 u → (u.cell? ⟨bd, 0, none⟩ = some (.pointer (some ⟨q, 0, none⟩)) ∧ u.cell? ⟨bz, 0, none⟩ = some (.int .i64 (j : Int)))) := hide (fun u hb => ⟨(hb.cell (p := ⟨bd, 0, none⟩) hbdl).trans cd, (hb.cell (p := ⟨bz, 0, none⟩) hbzl).trans cz⟩)
        clear hd4 hl4 cd cz hbdl hbzl
        go_upto_region 20 with (fail)
        have HBd : Hid (Below w4.heap.size w4 w4.drew) := hide ((Below.refl _ w4).drew)
        refine wp_region_noPanic ?_
        refine wp_region_held_drew (S := fun u => u.cell? ⟨bd, 0, none⟩ = some (.pointer (some ⟨q, 0, none⟩)) ∧ u.cell? ⟨bz, 0, none⟩ = some (.int .i64 (j : Int))) (by kernel_rfl) (HSany.out _ HBd.out) (fun hHeld => ?_)
        generalize w4.drew = wl at HBd hHeld ⊢
        refine wpAnyH_take (i := 0) (oi := ⟨_, _, _, _, _, _⟩) (v := ?_) rfl (by kernel_rfl) (by kernel_rfl) (by kernel_rfl) (fun _ _ _ h => h) (Or.inl ⟨by rfl, ?_⟩) hHeld ?_
        rotate_left
        · intro u hS
          obtain ⟨x0, x1⟩ := hS
          go_simp
          first | done | with_reducible rfl
        try simp only [Act.put, List.setIfInBounds_toArray, List.set_cons_zero, List.set_cons_succ]
        refine wpAnyH_take (i := 2) (oi := ⟨_, _, _, _, _, _⟩) (v := ?_) rfl (by kernel_rfl) (by kernel_rfl) (by kernel_rfl) (fun _ _ _ h => h) (Or.inl ⟨by rfl, ?_⟩) hHeld ?_
        rotate_left
        · intro u hS
          obtain ⟨x0, x1⟩ := hS
          go_simp
          first | done | with_reducible rfl
        try simp only [Act.put, List.setIfInBounds_toArray, List.set_cons_zero, List.set_cons_succ]
        refine wpAnyH_ready (rs := [1]) (by kernel_rfl) (by simp) ?_
        refine AllReadyH.cons rfl (fun K hK => ?_) AllReadyH.nil
        go_simp
        refine (Hdev.out _ HBd.out).mono ?_
        rintro e u ⟨rfl, rfl⟩
        go_simp
        refine hK.out _ _ hHeld (fun hHeld => ?_)
        clear hK K
        try simp only [Act.put, List.setIfInBounds_toArray, List.set_cons_zero, List.set_cons_succ]
        refine wpAnyH_ready (rs := [3]) (by kernel_rfl) (by simp) ?_
        refine AllReadyH.cons rfl (fun K hK => ?_) AllReadyH.nil
        go_simp
        refine (Hlook.out _ HBd.out).mono ?_
        rintro e w5 ⟨zA, zc, rfl, hw5, hsecs⟩
        have k5 := Blk.new wl 47 #[.slice zA Lj.length zc]
        have hb5 : Below wl.heap.size wl (wl.alloc (.cells #[.slice zA Lj.length zc] 47)) := (Below.refl _ wl).alloc (Nat.le_refl _) _
        rw [hw5] at k5 hb5
        have Hb5 := hide (HBd.out.trans (hb5.mono HBd.out.size))
        have Hse := hide (hsecs.below (hb5.mono HBd.out.size))
        have K5 := hide k5
        clear hw5 k5 hb5 hsecs
        go_simp
        refine hK.out _ _ (HSany.out _ Hb5.out) (fun hHeld => ?_)
        clear hK K
        try simp only [Act.put, List.setIfInBounds_toArray, List.set_cons_zero, List.set_cons_succ]
        refine wpAnyH_done (by kernel_rfl) ?_ _
        refine NoPanic.normal ?_
        clear hHeld Hlook Hdev HSany
        obtain ⟨A4, c4, cw4, fw4, hown4, hB4⟩ := HI4.out.rows.at_ hjn
        have cw4' : w4.cell? ⟨bw, j, none⟩ = some (.slice A4 (V j).length c4) := by
          have h := cw4
          rw [if_pos rfl] at h
          exact h
        have hown4' : w4.ownsRow 0 34 64 (.slice A4 (V j).length c4) (V j).length ((V j).flatMap Sec.cs) := by
          have h := hown4
          rw [if_pos rfl] at h
          exact h
        have HsecV := hide (ItS.Secs.of_own hown4')
        have Hcw4 := hide cw4'
        have hl65 : Lj.length < 65536 := HVj.out.2.2.2
        have hbwl : bw < w4.heap.size := HI4.out.rows.lt
        have Hbwl := hide hbwl
        clear cw4 fw4 hown4 hB4 cw4' hown4' hbwl
        go_wp2_with fail
        refine (wpIn_wide (n := 9)).1 (wpIn_rangeFunc_ownH rfl (by omega) rfl trivial (fun _ _ => rfl) (encs := ItS.encs Lj) (Kp := Below w4.heap.size) (ItS.all_stops Fence.wide 8 trivial rfl (by omega) _ w4.heap.size zA zc Lj (by omega) w5 K5.out.lt Hb5.out.size (K5.out.cell 0) Hse.out) belowK_t (belowK_b Hb5.out.size) (Below.refl _ _) (fun _ => rfl)
          (fun _ W => Below w4.heap.size w4 W ∧ w5.heap.size ≤ W.heap.size)
          (fun _ _ _ => False) ?_ (fun _ => ItS.ownFrom_pure _ _) ⟨Hb5.out, Nat.le_refl _⟩
          (fun x a' W => ∃ g9, a' = Sp.secFrame rb bd gb bx bz x.1 g9 (fun i => a'.tmps.getD i undef) ∧ Blk W g9 34 Lj[x.1].cs.toArray) ?_ ?_ ?_ ?_ ?_)
        · exact (ownFrom_below (Nat.le_refl _) Hb5.out.size).and (fun _ W W' row h hg _ => Nat.le_trans h hg.size)
        · rintro x a' _ W W' row ⟨g9, e, hb⟩ hg hr
          exact ⟨g9, e, ItS.ownFrom_blk (β := Unit) _ _ _ _ () W W' row hb hg hr⟩
        · rintro l pre x W K ⟨iB, iS⟩ hKa
          have HIB := hide (And.intro iB iS)
          have HKa := hide hKa
          have HZ := hide (Blk.new W 34 Sec.zero.cs.toArray)
          clear iB iS hKa
          dsimp only [ItS.encs]
          gi_wp2_with ((with_reducible refine ItS.wpListIn_store_row ?g2 34 (.tmp 18) (.tmp 99) ?o2 W.heap.size Lj[x.1].cs.toArray ?x2 ?y2 34 Sec.zero.cs.toArray ?k2 ?s2 ?l2 ?a2 ?_); (case g2 => exact rfl); (case o2 => exact rfl); (case x2 => exact rfl); (case y2 => exact rfl); (case k2 => exact HZ.out); (case s2 => exact ZD.sizeRow _); (case l2 => simp [Sec.len]); (case a2 => exact sec_all _))
          have hbY : Below W.heap.size W ((W.alloc (.cells Sec.zero.cs.toArray 34)).setRow W.heap.size Lj[x.1].cs.toArray) := below_setRow ((Below.refl _ W).alloc (Nat.le_refl _) _) (Nat.le_refl _) _
          have hWs : w4.heap.size ≤ W.heap.size := HIB.out.1.size
          refine HKa.out _ _ ⟨hbY.size, fun j o _ hj _ => (hbY.block j (Array.getElem?_eq_some_iff.1 hj).1).trans hj⟩ (hbY.mono hWs) ⟨HIB.out.1.trans (hbY.mono hWs), Nat.le_trans HIB.out.2 hbY.size⟩ ⟨W.heap.size, rfl, HZ.out.setRow _⟩
        · rintro l pre ⟨i, hi⟩ a' W hl hrec ⟨iB, iS⟩ ⟨g9, ha, hk9⟩ hpre
          dsimp only at hi hk9 ha ⊢
          generalize (fun j => a'.tmps.getD j undef) = v4 at ha
          subst ha
          unfold Sp.secFrame
          have HIB := hide (And.intro iB iS)
          have HWs := hide iB.size
          have hsp := DV.spoilt_any (Hd4.out.below iB) (j : Int) (i : Int) (fits_of (by omega) (by have := Hz.out.2; omega)) (fits_of (by omega) (by omega))
          unfold Sec.agg at hsp
          have hiV : i < (V j).length := by rw [HVj.out.2.1.len]; exact hi
          have hLi := HVj.out.2.1.at_ i hi hiV
          have hp0 := HVj.out.2.1.none_ (i : Int)
          generalize (X'.marks (j : Int) (i : Int)).1 = p at hsp hLi hp0
          generalize (X'.marks (j : Int) (i : Int)).2 = cn at hsp hp0
          have Hsp := hide hsp
          have Hp0 := hide hp0
          have Hxor : Hid (∀ u, Calls Try.prog 29 #[.agg (V j)[i].cs.toArray, .agg p.cs.toArray] u fun e u' => e = .returned (.agg Lj[i].cs.toArray) ∧ Below u.heap.size u u') := hide (fun u => by
            have h := ZD.xor_any (V j)[i] p u
            rw [← hLi] at h
            exact h)
          obtain ⟨bA, hAe, hbA, hrV⟩ := HsecV.out i hiV
          have hcwW := (iB.cell (p := ⟨bw, j, none⟩) Hbwl.out).trans Hcw4.out
          rw [hAe] at hcwW
          have hrVW := ItS.range_below iB hbA hrV
          have kdW : Blk W bd 59 _ := (iB.block _ HI4.out.box.lt).trans HI4.out.box
          have cd := kdW.cell 0
          have kxW : Blk W bx 79 _ := (iB.block _ HI4.out.sl.lt).trans HI4.out.sl
          have cx := kxW.cell 0
          have kzW : Blk W bz 3 _ := (iB.block _ Kz4.out.lt).trans Kz4.out
          have cz := kzW.cell 0
          have r9 : W.rangeAt g9 0 Lj[i].cs := ZD.range_blk _ hk9
          have HSW : Hid ((W.rangeAt g9 0 Lj[i].cs ∧ W.cell? ⟨bx, 0, none⟩ = some (.slice (some ⟨bw, 0, none⟩) n n) ∧ W.cell? ⟨bz, 0, none⟩ = some (.int .i64 (j : Int)) ∧ W.cell? ⟨bw, j, none⟩ = some (.slice (some ⟨bA, 0, none⟩) (V j).length c4) ∧ W.rangeAt bA (i * 64) (V j)[i].cs) ∧ g9 < W.heap.size ∧ bx < W.heap.size ∧ bz < W.heap.size ∧ bw < W.heap.size ∧ bA < W.heap.size) := hide ⟨⟨r9, cx, cz, hcwW, hrVW⟩, hk9.lt, kxW.lt, kzW.lt, Nat.lt_of_lt_of_le Hbwl.out iB.size, Nat.lt_of_lt_of_le hbA iB.size⟩
          have hdi : decide ((V j).length ≤ i) = false := decide_eq_false (by omega)
          clear iB iS hsp hLi hp0 hAe hbA hrV hcwW hrVW cx kxW kzW kdW r9 hk9
          gi_wp2_with fail
          refine ⟨trivial, CallsIn.mono (CallsIn.inRound l (callsIn_wide.2 Hsp.out)) ?_⟩
          rintro e W1 ⟨rfl, hb1⟩
          have HZ := hide (Blk.new W1 34 Sec.zero.cs.toArray)
          have hb2 : Below W1.heap.size W1 ((W1.alloc (.cells Sec.zero.cs.toArray 34)).setRow W1.heap.size p.cs.toArray) := below_setRow ((Below.refl _ W1).alloc (Nat.le_refl _) _) (Nat.le_refl _) _
          have kt := HZ.out.setRow p.cs.toArray
          have Hb1 := hide hb1
          clear hb1 cd cz Hsp
          gi_upto_region 24 with ((with_reducible refine ItS.wpListIn_store_row ?g2 34 (.tmp 19) (.tmp 105) ?o2 W1.heap.size p.cs.toArray ?x2 ?y2 34 Sec.zero.cs.toArray ?k2 ?s2 ?l2 ?a2 ?_); (case g2 => exact rfl); (case o2 => exact rfl); (case x2 => exact rfl); (case y2 => exact rfl); (case k2 => exact HZ.out); (case s2 => exact ZD.sizeRow _); (case l2 => simp [Sec.len]); (case a2 => exact sec_all _))
          generalize hWD : World.setRow (World.alloc W1 _) _ _ = W2
          have hWD' : (W1.alloc (.cells Sec.zero.cs.toArray 34)).setRow W1.heap.size p.cs.toArray = W2 := hWD
          rw [hWD'] at hb2 kt
          clear hWD hWD' HZ
          have HbW2 := hide (Hb1.out.trans (hb2.mono Hb1.out.size))
          have rt : W2.rangeAt W1.heap.size 0 p.cs := ZD.range_blk _ kt
          have htl := kt.lt
          have HSall : Hid (∀ u, Below W2.heap.size W2 u → (u.rangeAt g9 0 Lj[i].cs ∧ u.cell? ⟨bx, 0, none⟩ = some (.slice (some ⟨bw, 0, none⟩) n n) ∧ u.cell? ⟨bz, 0, none⟩ = some (.int .i64 (j : Int)) ∧ u.cell? ⟨bw, j, none⟩ = some (.slice (some ⟨bA, 0, none⟩) (V j).length c4) ∧ u.rangeAt bA (i * 64) (V j)[i].cs ∧ u.rangeAt W1.heap.size 0 p.cs)) := hide (fun u hb => by
            have h := HSW.out
            have hb' := HbW2.out.trans (hb.mono HbW2.out.size)
            exact ⟨ItS.range_below hb' h.2.1 h.1.1, (hb'.cell (p := ⟨bx, 0, none⟩) h.2.2.1).trans h.1.2.1, (hb'.cell (p := ⟨bz, 0, none⟩) h.2.2.2.1).trans h.1.2.2.1, (hb'.cell (p := ⟨bw, j, none⟩) h.2.2.2.2.1).trans h.1.2.2.2.1, ItS.range_below hb' h.2.2.2.2.2 h.1.2.2.2.2, ItS.range_below hb htl rt⟩)
          have HSd := hide (HSall.out W2.drew ((Below.refl _ W2).drew))
          have dj : decide (n ≤ j) = false := decide_eq_false (by omega)
          clear hb2 kt rt htl Hb1 HSW
          by_cases hc0 : cn = 0
          · obtain rfl := Hp0.out hc0
            subst hc0
            clear Hp0
            refine InRound.wpIn_region_held (S := fun u => u.rangeAt g9 0 Lj[i].cs ∧ u.cell? ⟨bx, 0, none⟩ = some (.slice (some ⟨bw, 0, none⟩) n n) ∧ u.cell? ⟨bz, 0, none⟩ = some (.int .i64 (j : Int)) ∧ u.cell? ⟨bw, j, none⟩ = some (.slice (some ⟨bA, 0, none⟩) (V j).length c4) ∧ u.rangeAt bA (i * 64) (V j)[i].cs ∧ u.rangeAt W1.heap.size 0 Sec.zero.cs) (by kernel_rfl) (by kernel_rfl) HSd.out (fun hHeld => ?_)
            refine wpAnyH_take (i := 0) (oi := ⟨_, _, _, _, _, _⟩) (v := .agg Lj[i].cs.toArray) rfl (by kernel_rfl) (by kernel_rfl) (by kernel_rfl) (fun _ _ _ h => h) (Or.inl ⟨by rfl, fun u hS => exec_load_row 34 (.tmp 18) rfl g9 0 rfl Lj[i].cs _ hS.1 Try.underlying34 rfl (ZD.sizeSec _)⟩) hHeld ?_
            try simp only [Act.put, List.setIfInBounds_toArray, List.set_cons_zero, List.set_cons_succ]
            refine wpAnyH_take (i := 1) (oi := ⟨_, _, _, _, _, _⟩) (v := ?_) rfl (by kernel_rfl) (by kernel_rfl) (by kernel_rfl) (fun _ _ _ h => h) (Or.inl ⟨by rfl, ?_⟩) hHeld ?_
            rotate_left
            · intro u hS
              obtain ⟨x0, x1, x2, x3, x4, x5⟩ := hS
              go_simp
              first | done | with_reducible rfl
            try simp only [Act.put, List.setIfInBounds_toArray, List.set_cons_zero, List.set_cons_succ]
            refine wpAnyH_take (i := 2) (oi := ⟨_, _, _, _, _, _⟩) (v := ?_) rfl (by kernel_rfl) (by kernel_rfl) (by kernel_rfl) (fun _ _ _ h => h) (Or.inl ⟨by rfl, ?_⟩) hHeld ?_
            rotate_left
            · intro u hS
              obtain ⟨x0, x1, x2, x3, x4, x5⟩ := hS
              go_simp
              first | done | with_reducible rfl
            try simp only [Act.put, List.setIfInBounds_toArray, List.set_cons_zero, List.set_cons_succ]
            refine wpAnyH_take (i := 3) (oi := ⟨_, _, _, _, _, _⟩) (v := ?_) rfl (by kernel_rfl) (by kernel_rfl) (by kernel_rfl) (fun _ _ _ h => h) (Or.inl ⟨by rfl, ?_⟩) hHeld ?_
            rotate_left
            · intro u hS
              obtain ⟨x0, x1, x2, x3, x4, x5⟩ := hS
              go_simp
              first | done | with_reducible rfl
            try simp only [Act.put, List.setIfInBounds_toArray, List.set_cons_zero, List.set_cons_succ]
            refine wpAnyH_take (i := 4) (oi := ⟨_, _, _, _, _, _⟩) (v := ?_) rfl (by kernel_rfl) (by kernel_rfl) (by kernel_rfl) (fun _ _ _ h => h) (Or.inl ⟨by rfl, ?_⟩) hHeld ?_
            rotate_left
            · intro u hS
              obtain ⟨x0, x1, x2, x3, x4, x5⟩ := hS
              go_simp
              first | done | with_reducible rfl
            try simp only [Act.put, List.setIfInBounds_toArray, List.set_cons_zero, List.set_cons_succ]
            refine wpAnyH_take (i := 5) (oi := ⟨_, _, _, _, _, _⟩) (v := ?_) rfl (by kernel_rfl) (by kernel_rfl) (by kernel_rfl) (fun _ _ _ h => h) (Or.inl ⟨by rfl, ?_⟩) hHeld ?_
            rotate_left
            · intro u hS
              obtain ⟨x0, x1, x2, x3, x4, x5⟩ := hS
              go_simp
              first | done | with_reducible rfl
            try simp only [Act.put, List.setIfInBounds_toArray, List.set_cons_zero, List.set_cons_succ]
            refine wpAnyH_take (i := 6) (oi := ⟨_, _, _, _, _, _⟩) (v := ?_) rfl (by kernel_rfl) (by kernel_rfl) (by kernel_rfl) (fun _ _ _ h => h) (Or.inl ⟨by rfl, ?_⟩) hHeld ?_
            rotate_left
            · intro u hS
              obtain ⟨x0, x1, x2, x3, x4, x5⟩ := hS
              go_simp
              first | done | with_reducible rfl
            try simp only [Act.put, List.setIfInBounds_toArray, List.set_cons_zero, List.set_cons_succ]
            refine wpAnyH_take (i := 7) (oi := ⟨_, _, _, _, _, _⟩) (v := .agg (V j)[i].cs.toArray) rfl (by kernel_rfl) (by kernel_rfl) (by kernel_rfl) (fun _ _ _ h => h) (Or.inl ⟨by rfl, fun u hS => exec_load_row 34 (.tmp 113) rfl bA (i * 64) rfl (V j)[i].cs _ hS.2.2.2.2.1 Try.underlying34 rfl (ZD.sizeSec _)⟩) hHeld ?_
            try simp only [Act.put, List.setIfInBounds_toArray, List.set_cons_zero, List.set_cons_succ]
            refine wpAnyH_take (i := 8) (oi := ⟨_, _, _, _, _, _⟩) (v := .agg Sec.zero.cs.toArray) rfl (by kernel_rfl) (by kernel_rfl) (by kernel_rfl) (fun _ _ _ h => h) (Or.inl ⟨by rfl, fun u hS => exec_load_row 34 (.tmp 19) rfl W1.heap.size 0 rfl Sec.zero.cs _ hS.2.2.2.2.2 Try.underlying34 rfl (ZD.sizeSec _)⟩) hHeld ?_
            try simp only [Act.put, List.setIfInBounds_toArray, List.set_cons_zero, List.set_cons_succ]
            refine wpAnyH_ready (rs := [9]) (by kernel_rfl) (by simp) ?_
            refine AllReadyH.cons rfl (fun K hK => ?_) AllReadyH.nil
            go_simp
            refine (Hxor.out _).mono ?_
            rintro e W3 ⟨rfl, hb3⟩
            have hball : Below W.heap.size W W3 := HbW2.out.trans ((((Below.refl _ W2).drew).trans hb3).mono HbW2.out.size)
            have hb23 : Below W2.heap.size W2 W3 := ((Below.refl _ W2).drew).trans hb3
            have Hball := hide hball
            have HS3 := hide (HSall.out W3 hb23)
            clear hb3 hball hb23
            go_simp
            refine hK.out _ _ HS3.out (fun hHeld => ?_)
            clear hK K
            have qS := eqS Lj[i]
            try simp only [Act.put, List.setIfInBounds_toArray, List.set_cons_zero, List.set_cons_succ]
            refine wpAnyH_take (i := 10) (oi := ⟨_, _, _, _, _, _⟩) (v := ?_) rfl (by kernel_rfl) (by kernel_rfl) (by kernel_rfl) (fun _ _ _ h => h) (Or.inl ⟨by rfl, ?_⟩) hHeld ?_
            rotate_left
            · intro u hS
              obtain ⟨x0, x1, x2, x3, x4, x5⟩ := hS
              go_simp
              first | done | with_reducible rfl
            try simp only [Act.put, List.setIfInBounds_toArray, List.set_cons_zero, List.set_cons_succ]
            clear qS
            refine wpAnyH_take (i := 11) (oi := ⟨_, _, _, _, _, _⟩) (v := ?_) rfl (by kernel_rfl) (by kernel_rfl) (by kernel_rfl) (fun _ _ _ h => h) (Or.inl ⟨by rfl, ?_⟩) hHeld ?_
            rotate_left
            · intro u hS
              obtain ⟨x0, x1, x2, x3, x4, x5⟩ := hS
              go_simp
              first | done | with_reducible rfl
            try simp only [Act.put, List.setIfInBounds_toArray, List.set_cons_zero, List.set_cons_succ]
            refine wpAnyH_take (i := 12) (oi := ⟨_, _, _, _, _, _⟩) (v := ?_) rfl (by kernel_rfl) (by kernel_rfl) (by kernel_rfl) (fun _ _ _ h => h) (Or.inl ⟨by rfl, ?_⟩) hHeld ?_
            rotate_left
            · intro u hS
              obtain ⟨x0, x1, x2, x3, x4, x5⟩ := hS
              go_simp
              first | done | with_reducible rfl
            try simp only [Act.put, List.setIfInBounds_toArray, List.set_cons_zero, List.set_cons_succ]
            refine wpAnyH_take (i := 13) (oi := ⟨_, _, _, _, _, _⟩) (v := ?_) rfl (by kernel_rfl) (by kernel_rfl) (by kernel_rfl) (fun _ _ _ h => h) (Or.inl ⟨by rfl, ?_⟩) hHeld ?_
            rotate_left
            · intro u hS
              obtain ⟨x0, x1, x2, x3, x4, x5⟩ := hS
              go_simp
              first | done | with_reducible rfl
            try simp only [Act.put, List.setIfInBounds_toArray, List.set_cons_zero, List.set_cons_succ]
            refine wpAnyH_take (i := 14) (oi := ⟨_, _, _, _, _, _⟩) (v := ?_) rfl (by kernel_rfl) (by kernel_rfl) (by kernel_rfl) (fun _ _ _ h => h) (Or.inl ⟨by rfl, ?_⟩) hHeld ?_
            rotate_left
            · intro u hS
              obtain ⟨x0, x1, x2, x3, x4, x5⟩ := hS
              go_simp
              first | done | with_reducible rfl
            try simp only [Act.put, List.setIfInBounds_toArray, List.set_cons_zero, List.set_cons_succ]
            refine wpAnyH_take (i := 15) (oi := ⟨_, _, _, _, _, _⟩) (v := .agg Sec.zero.cs.toArray) rfl (by kernel_rfl) (by kernel_rfl) (by kernel_rfl) (fun _ _ _ h => h) (Or.inl ⟨by rfl, fun u hS => exec_load_row 34 (.tmp 19) rfl W1.heap.size 0 rfl Sec.zero.cs _ hS.2.2.2.2.2 Try.underlying34 rfl (ZD.sizeSec _)⟩) hHeld ?_
            try simp only [Act.put, List.setIfInBounds_toArray, List.set_cons_zero, List.set_cons_succ]
            refine wpAnyH_take (i := 16) (oi := ⟨_, _, _, _, _, _⟩) (v := .agg Sec.zero.cs.toArray) rfl (by kernel_rfl) (by kernel_rfl) (by kernel_rfl) (fun _ _ _ h => h) (Or.inl ⟨by rfl, fun u _ => exec_build_sec0 rfl⟩) hHeld ?_
            try simp only [Act.put, List.setIfInBounds_toArray, List.set_cons_zero, List.set_cons_succ]
            have qS := eqS Sec.zero
            refine wpAnyH_take (i := 17) (oi := ⟨_, _, _, _, _, _⟩) (v := ?_) rfl (by kernel_rfl) (by kernel_rfl) (by kernel_rfl) (fun _ _ _ h => h) (Or.inl ⟨by rfl, ?_⟩) hHeld ?_
            rotate_left
            · intro u hS
              obtain ⟨x0, x1, x2, x3, x4, x5⟩ := hS
              go_simp
              first | done | with_reducible rfl
            try simp only [Act.put, List.setIfInBounds_toArray, List.set_cons_zero, List.set_cons_succ]
            clear qS
            refine wpAnyH_take (i := 18) (oi := ⟨_, _, _, _, _, _⟩) (v := ?_) rfl (by kernel_rfl) (by kernel_rfl) (by kernel_rfl) (fun _ _ _ h => h) (Or.inl ⟨by rfl, ?_⟩) hHeld ?_
            rotate_left
            · intro u hS
              obtain ⟨x0, x1, x2, x3, x4, x5⟩ := hS
              go_simp
              first | done | with_reducible rfl
            try simp only [Act.put, List.setIfInBounds_toArray, List.set_cons_zero, List.set_cons_succ]
            refine wpAnyH_take (i := 19) (oi := ⟨_, _, _, _, _, _⟩) (v := ?_) rfl (by kernel_rfl) (by kernel_rfl) (by kernel_rfl) (fun _ _ _ h => h) (Or.inl ⟨by rfl, ?_⟩) hHeld ?_
            rotate_left
            · intro u hS
              obtain ⟨x0, x1, x2, x3, x4, x5⟩ := hS
              go_simp
              first | done | with_reducible rfl
            try simp only [Act.put, List.setIfInBounds_toArray, List.set_cons_zero, List.set_cons_succ]
            refine wpAnyH_done (by kernel_rfl) ?_ _
            refine InRound.Only.normal ?_
            clear hHeld
            gi_wp2
            exact ⟨⟨Hball.out.size, fun q9 o _ hq _ => (Hball.out.block q9 (Array.getElem?_eq_some_iff.1 hq).1).trans hq⟩, Hball.out.mono HWs.out, HIB.out.1.trans (Hball.out.mono HWs.out), Nat.le_trans HIB.out.2 Hball.out.size⟩
          · have ecn : (cn == 0) = false := beq_eq_false_iff_ne.2 hc0
            clear hc0 Hp0
            refine InRound.wpIn_region_held (S := fun u => u.rangeAt g9 0 Lj[i].cs ∧ u.cell? ⟨bx, 0, none⟩ = some (.slice (some ⟨bw, 0, none⟩) n n) ∧ u.cell? ⟨bz, 0, none⟩ = some (.int .i64 (j : Int)) ∧ u.cell? ⟨bw, j, none⟩ = some (.slice (some ⟨bA, 0, none⟩) (V j).length c4) ∧ u.rangeAt bA (i * 64) (V j)[i].cs ∧ u.rangeAt W1.heap.size 0 p.cs) (by kernel_rfl) (by kernel_rfl) HSd.out (fun hHeld => ?_)
            refine wpAnyH_take (i := 0) (oi := ⟨_, _, _, _, _, _⟩) (v := .agg Lj[i].cs.toArray) rfl (by kernel_rfl) (by kernel_rfl) (by kernel_rfl) (fun _ _ _ h => h) (Or.inl ⟨by rfl, fun u hS => exec_load_row 34 (.tmp 18) rfl g9 0 rfl Lj[i].cs _ hS.1 Try.underlying34 rfl (ZD.sizeSec _)⟩) hHeld ?_
            try simp only [Act.put, List.setIfInBounds_toArray, List.set_cons_zero, List.set_cons_succ]
            refine wpAnyH_take (i := 1) (oi := ⟨_, _, _, _, _, _⟩) (v := ?_) rfl (by kernel_rfl) (by kernel_rfl) (by kernel_rfl) (fun _ _ _ h => h) (Or.inl ⟨by rfl, ?_⟩) hHeld ?_
            rotate_left
            · intro u hS
              obtain ⟨x0, x1, x2, x3, x4, x5⟩ := hS
              go_simp
              first | done | with_reducible rfl
            try simp only [Act.put, List.setIfInBounds_toArray, List.set_cons_zero, List.set_cons_succ]
            refine wpAnyH_take (i := 2) (oi := ⟨_, _, _, _, _, _⟩) (v := ?_) rfl (by kernel_rfl) (by kernel_rfl) (by kernel_rfl) (fun _ _ _ h => h) (Or.inl ⟨by rfl, ?_⟩) hHeld ?_
            rotate_left
            · intro u hS
              obtain ⟨x0, x1, x2, x3, x4, x5⟩ := hS
              go_simp
              first | done | with_reducible rfl
            try simp only [Act.put, List.setIfInBounds_toArray, List.set_cons_zero, List.set_cons_succ]
            refine wpAnyH_take (i := 3) (oi := ⟨_, _, _, _, _, _⟩) (v := ?_) rfl (by kernel_rfl) (by kernel_rfl) (by kernel_rfl) (fun _ _ _ h => h) (Or.inl ⟨by rfl, ?_⟩) hHeld ?_
            rotate_left
            · intro u hS
              obtain ⟨x0, x1, x2, x3, x4, x5⟩ := hS
              go_simp
              first | done | with_reducible rfl
            try simp only [Act.put, List.setIfInBounds_toArray, List.set_cons_zero, List.set_cons_succ]
            refine wpAnyH_take (i := 4) (oi := ⟨_, _, _, _, _, _⟩) (v := ?_) rfl (by kernel_rfl) (by kernel_rfl) (by kernel_rfl) (fun _ _ _ h => h) (Or.inl ⟨by rfl, ?_⟩) hHeld ?_
            rotate_left
            · intro u hS
              obtain ⟨x0, x1, x2, x3, x4, x5⟩ := hS
              go_simp
              first | done | with_reducible rfl
            try simp only [Act.put, List.setIfInBounds_toArray, List.set_cons_zero, List.set_cons_succ]
            refine wpAnyH_take (i := 5) (oi := ⟨_, _, _, _, _, _⟩) (v := ?_) rfl (by kernel_rfl) (by kernel_rfl) (by kernel_rfl) (fun _ _ _ h => h) (Or.inl ⟨by rfl, ?_⟩) hHeld ?_
            rotate_left
            · intro u hS
              obtain ⟨x0, x1, x2, x3, x4, x5⟩ := hS
              go_simp
              first | done | with_reducible rfl
            try simp only [Act.put, List.setIfInBounds_toArray, List.set_cons_zero, List.set_cons_succ]
            refine wpAnyH_take (i := 6) (oi := ⟨_, _, _, _, _, _⟩) (v := ?_) rfl (by kernel_rfl) (by kernel_rfl) (by kernel_rfl) (fun _ _ _ h => h) (Or.inl ⟨by rfl, ?_⟩) hHeld ?_
            rotate_left
            · intro u hS
              obtain ⟨x0, x1, x2, x3, x4, x5⟩ := hS
              go_simp
              first | done | with_reducible rfl
            try simp only [Act.put, List.setIfInBounds_toArray, List.set_cons_zero, List.set_cons_succ]
            refine wpAnyH_take (i := 7) (oi := ⟨_, _, _, _, _, _⟩) (v := .agg (V j)[i].cs.toArray) rfl (by kernel_rfl) (by kernel_rfl) (by kernel_rfl) (fun _ _ _ h => h) (Or.inl ⟨by rfl, fun u hS => exec_load_row 34 (.tmp 113) rfl bA (i * 64) rfl (V j)[i].cs _ hS.2.2.2.2.1 Try.underlying34 rfl (ZD.sizeSec _)⟩) hHeld ?_
            try simp only [Act.put, List.setIfInBounds_toArray, List.set_cons_zero, List.set_cons_succ]
            refine wpAnyH_take (i := 8) (oi := ⟨_, _, _, _, _, _⟩) (v := .agg p.cs.toArray) rfl (by kernel_rfl) (by kernel_rfl) (by kernel_rfl) (fun _ _ _ h => h) (Or.inl ⟨by rfl, fun u hS => exec_load_row 34 (.tmp 19) rfl W1.heap.size 0 rfl p.cs _ hS.2.2.2.2.2 Try.underlying34 rfl (ZD.sizeSec _)⟩) hHeld ?_
            try simp only [Act.put, List.setIfInBounds_toArray, List.set_cons_zero, List.set_cons_succ]
            refine wpAnyH_ready (rs := [9]) (by kernel_rfl) (by simp) ?_
            refine AllReadyH.cons rfl (fun K hK => ?_) AllReadyH.nil
            go_simp
            refine (Hxor.out _).mono ?_
            rintro e W3 ⟨rfl, hb3⟩
            have hball : Below W.heap.size W W3 := HbW2.out.trans ((((Below.refl _ W2).drew).trans hb3).mono HbW2.out.size)
            have hb23 : Below W2.heap.size W2 W3 := ((Below.refl _ W2).drew).trans hb3
            have Hball := hide hball
            have HS3 := hide (HSall.out W3 hb23)
            clear hb3 hball hb23
            go_simp
            refine hK.out _ _ HS3.out (fun hHeld => ?_)
            clear hK K
            have qS := eqS Lj[i]
            try simp only [Act.put, List.setIfInBounds_toArray, List.set_cons_zero, List.set_cons_succ]
            refine wpAnyH_take (i := 10) (oi := ⟨_, _, _, _, _, _⟩) (v := ?_) rfl (by kernel_rfl) (by kernel_rfl) (by kernel_rfl) (fun _ _ _ h => h) (Or.inl ⟨by rfl, ?_⟩) hHeld ?_
            rotate_left
            · intro u hS
              obtain ⟨x0, x1, x2, x3, x4, x5⟩ := hS
              go_simp
              first | done | with_reducible rfl
            try simp only [Act.put, List.setIfInBounds_toArray, List.set_cons_zero, List.set_cons_succ]
            clear qS
            refine wpAnyH_take (i := 11) (oi := ⟨_, _, _, _, _, _⟩) (v := ?_) rfl (by kernel_rfl) (by kernel_rfl) (by kernel_rfl) (fun _ _ _ h => h) (Or.inl ⟨by rfl, ?_⟩) hHeld ?_
            rotate_left
            · intro u hS
              obtain ⟨x0, x1, x2, x3, x4, x5⟩ := hS
              go_simp
              first | done | with_reducible rfl
            try simp only [Act.put, List.setIfInBounds_toArray, List.set_cons_zero, List.set_cons_succ]
            refine wpAnyH_take (i := 12) (oi := ⟨_, _, _, _, _, _⟩) (v := ?_) rfl (by kernel_rfl) (by kernel_rfl) (by kernel_rfl) (fun _ _ _ h => h) (Or.inl ⟨by rfl, ?_⟩) hHeld ?_
            rotate_left
            · intro u hS
              obtain ⟨x0, x1, x2, x3, x4, x5⟩ := hS
              go_simp
              first | done | with_reducible rfl
            try simp only [Act.put, List.setIfInBounds_toArray, List.set_cons_zero, List.set_cons_succ]
            refine wpAnyH_take (i := 13) (oi := ⟨_, _, _, _, _, _⟩) (v := ?_) rfl (by kernel_rfl) (by kernel_rfl) (by kernel_rfl) (fun _ _ _ h => h) (Or.inl ⟨by rfl, ?_⟩) hHeld ?_
            rotate_left
            · intro u hS
              obtain ⟨x0, x1, x2, x3, x4, x5⟩ := hS
              go_simp
              first | done | with_reducible rfl
            try simp only [Act.put, List.setIfInBounds_toArray, List.set_cons_zero, List.set_cons_succ]
            refine wpAnyH_take (i := 14) (oi := ⟨_, _, _, _, _, _⟩) (v := ?_) rfl (by kernel_rfl) (by kernel_rfl) (by kernel_rfl) (fun _ _ _ h => h) (Or.inl ⟨by rfl, ?_⟩) hHeld ?_
            rotate_left
            · intro u hS
              obtain ⟨x0, x1, x2, x3, x4, x5⟩ := hS
              go_simp
              first | done | with_reducible rfl
            try simp only [Act.put, List.setIfInBounds_toArray, List.set_cons_zero, List.set_cons_succ]
            refine wpAnyH_take (i := 15) (oi := ⟨_, _, _, _, _, _⟩) (v := undef) rfl (by kernel_rfl) (by kernel_rfl) (by kernel_rfl) (fun _ _ _ h => h) (Or.inr ⟨by rfl, rfl⟩) hHeld ?_
            try simp only [Act.put, List.setIfInBounds_toArray, List.set_cons_zero, List.set_cons_succ]
            refine wpAnyH_take (i := 16) (oi := ⟨_, _, _, _, _, _⟩) (v := undef) rfl (by kernel_rfl) (by kernel_rfl) (by kernel_rfl) (fun _ _ _ h => h) (Or.inr ⟨by rfl, rfl⟩) hHeld ?_
            try simp only [Act.put, List.setIfInBounds_toArray, List.set_cons_zero, List.set_cons_succ]
            refine wpAnyH_take (i := 17) (oi := ⟨_, _, _, _, _, _⟩) (v := undef) rfl (by kernel_rfl) (by kernel_rfl) (by kernel_rfl) (fun _ _ _ h => h) (Or.inr ⟨by rfl, rfl⟩) hHeld ?_
            try simp only [Act.put, List.setIfInBounds_toArray, List.set_cons_zero, List.set_cons_succ]
            refine wpAnyH_take (i := 18) (oi := ⟨_, _, _, _, _, _⟩) (v := ?_) rfl (by kernel_rfl) (by kernel_rfl) (by kernel_rfl) (fun _ _ _ h => h) (Or.inl ⟨by rfl, ?_⟩) hHeld ?_
            rotate_left
            · intro u hS
              obtain ⟨x0, x1, x2, x3, x4, x5⟩ := hS
              go_simp
              first | done | with_reducible rfl
            try simp only [Act.put, List.setIfInBounds_toArray, List.set_cons_zero, List.set_cons_succ]
            refine wpAnyH_take (i := 19) (oi := ⟨_, _, _, _, _, _⟩) (v := ?_) rfl (by kernel_rfl) (by kernel_rfl) (by kernel_rfl) (fun _ _ _ h => h) (Or.inl ⟨by rfl, ?_⟩) hHeld ?_
            rotate_left
            · intro u hS
              obtain ⟨x0, x1, x2, x3, x4, x5⟩ := hS
              go_simp
              first | done | with_reducible rfl
            try simp only [Act.put, List.setIfInBounds_toArray, List.set_cons_zero, List.set_cons_succ]
            refine wpAnyH_done (by kernel_rfl) ?_ _
            refine InRound.Only.normal ?_
            clear hHeld
            gi_wp2
            exact ⟨⟨Hball.out.size, fun q9 o _ hq _ => (Hball.out.block q9 (Array.getElem?_eq_some_iff.1 hq).1).trans hq⟩, Hball.out.mono HWs.out, HIB.out.1.trans (Hball.out.mono HWs.out), Nat.le_trans HIB.out.2 Hball.out.size⟩
        · rintro D' xs W hD rfl ⟨iB, iS⟩ hdef
          rename_i hK4 hh4
          refine hK4 _ _ ?_
          clear hK4 hh4
          have hsp := DV.spoilt_any (Hd4.out.below iB) (j : Int) (Lj.length : Int) (fits_of (by omega) (by have := Hz.out.2; omega)) (fits_of (by omega) (by omega))
          rw [HVj.out.2.1.past (Lj.length : Int) (Int.le_refl _)] at hsp
          have Hsp : Hid (Calls Try.prog 40 #[.pointer (some ⟨q, 0, none⟩), .int .i64 (j : Int), .int .i64 (Lj.length : Int)] W fun e u => e = .returned (.tuple #[.agg Sec.zero.cs.toArray, .int .i64 0]) ∧ Below W.heap.size W u) := hide hsp
          have kdW : Blk W bd 59 _ := (iB.block _ HI4.out.box.lt).trans HI4.out.box
          have cd := kdW.cell 0
          have kzW : Blk W bz 3 _ := (iB.block _ Kz4.out.lt).trans Kz4.out
          have cz := kzW.cell 0
          have HIB := hide (And.intro iB (And.intro hdef (And.intro (Array.getElem?_eq_some_iff.1 hdef).1 (Nat.le_trans Hb5.out.size hD))))
          clear hsp kdW kzW iB iS hdef hD
          go_wp2_with fail
          refine Hsp.out.mono ?_
          rintro e W1 ⟨rfl, hb1⟩
          have HZ := hide (Blk.new W1 34 Sec.zero.cs.toArray)
          have hb2 : Below W1.heap.size W1 ((W1.alloc (.cells Sec.zero.cs.toArray 34)).setRow W1.heap.size Sec.zero.cs.toArray) := below_setRow ((Below.refl _ W1).alloc (Nat.le_refl _) _) (Nat.le_refl _) _
          have kt := HZ.out.setRow Sec.zero.cs.toArray
          have Hb1 := hide hb1
          clear hb1 cd cz Hsp
          go_upto_region 27 with ((with_reducible refine wpList_store_row ?g2 34 (.tmp 21) (.tmp 132) ?o2 W1.heap.size Sec.zero.cs.toArray ?x2 ?y2 34 Sec.zero.cs.toArray ?k2 ?s2 ?l2 ?a2 ?_); (case g2 => exact rfl); (case o2 => exact rfl); (case x2 => exact rfl); (case y2 => exact rfl); (case k2 => exact HZ.out); (case s2 => exact ZD.sizeRow _); (case l2 => simp [Sec.len]); (case a2 => exact sec_all _))
          generalize hWD : World.setRow (World.alloc W1 _) _ _ = W2
          have hWD' : (W1.alloc (.cells Sec.zero.cs.toArray 34)).setRow W1.heap.size Sec.zero.cs.toArray = W2 := hWD
          rw [hWD'] at hb2 kt
          clear hWD hWD' HZ
          have hbW2 := Hb1.out.trans (hb2.mono Hb1.out.size)
          have hb42 := HIB.out.1.trans (hbW2.mono HIB.out.1.size)
          have Rt : Hid (W2.rangeAt W1.heap.size 0 Sec.zero.cs) := hide (ZD.range_blk _ kt)
          have Hfin : Hid (Inv w rb bd bx bw gb q d n X' (fun i => if i = j then V j else Y i) (D' :: Ds2) B' (fun b => b = ob) W2 ∧ Blk W2 ob 68 ps[k].cells.toArray ∧ (∀ i, i < j + 1 → (fun i => if i = j then V j else Y i) i = V i) ∧ ∀ i, j + 1 ≤ i → (fun i => if i = j then V j else Y i) i = U i) := hide (by
            have h := HI4.out
            have hDl := HIB.out.2.2.1
            have hs2 := hbW2.size
            refine ⟨⟨h.rel.more (fun b hb => ?_) hb42, (hb42.block _ h.res.lt).trans h.res, (hb42.block _ h.box.lt).trans h.box, (hb42.block _ h.sl.lt).trans h.sl, h.rows.below hb42, fun D hD => ?_, List.nodup_cons.2 ⟨fun hm => ?_, h.nodup⟩, h.ge⟩, (hb42.block _ KO4.out.lt).trans KO4.out, fun i hi => ?_, fun i hi => ?_⟩
            · rcases hb with h1 | h1 | h1 | h1 | h1 | h1 | h1
              · exact .inl (.inl h1)
              · exact .inl (.inr (.inl h1))
              · exact .inl (.inr (.inr (.inl h1)))
              · exact .inl (.inr (.inr (.inr (.inl h1))))
              · rcases List.mem_cons.1 h1 with rfl | h1
                · exact .inr ⟨HIB.out.2.2.2, by omega⟩
                · exact .inl (.inr (.inr (.inr (.inr (.inl h1)))))
              · exact .inl (.inr (.inr (.inr (.inr (.inr (.inl h1))))))
              · exact .inl (.inr (.inr (.inr (.inr (.inr (.inr h1))))))
            · rcases List.mem_cons.1 hD with rfl | hD
              · exact ⟨(hbW2.block _ hDl).trans HIB.out.2.1, by have := h.res.lt; have := HIB.out.2.2.2; omega⟩
              · have h9 := h.marks D hD
                exact ⟨(hb42.block D (Array.getElem?_eq_some_iff.1 h9.1).1).trans h9.1, h9.2⟩
            · have := (Array.getElem?_eq_some_iff.1 (h.marks _ hm).1).1
              have := HIB.out.2.2.2
              omega
            · dsimp only
              by_cases e : i = j
              · rw [if_pos e, e]
              · rw [if_neg e, HYj.out.2.2 i e]
                exact Hlo.out.1 i (by omega)
            · dsimp only
              rw [if_neg (by omega), HYj.out.2.2 i (by omega)]
              exact Hlo.out.2 i (by omega))
          have qS := eqS Sec.zero
          have hn40 : n ≤ 40 := Hz.out.2
          clear hb2 kt hbW2 hb42 Hb1
          refine wp_region_lit ?_
          iterate 7
            first
            | (refine wpList_stepG (by first | rfl | decide) (exec_load_row 34 (.tmp 21) rfl W1.heap.size 0 rfl Sec.zero.cs _ Rt.out Try.underlying34 rfl (ZD.sizeSec _)) (fun K hK => ?_)
               go_simp
               refine hK _ ?_
               clear hK K)
            | (refine wpList_stepG (by first | rfl | decide) (exec_build_sec0 rfl) (fun K hK => ?_)
               go_simp
               refine hK _ ?_
               clear hK K)
            | (apply wpList_stepG (by first | rfl | decide)
               · go_simp
                 first | done | rfl
               intro K hK
               go_simp
               refine hK _ ?_
               clear hK K)
          go_wp2_with fail
          exact ⟨⟨j + 1, D' :: Ds2, by first | rfl | (simp only [Int.natCast_add]; exact ⟨rfl, rfl⟩) | (unfold Sp.inFrame; rfl) | (unfold Sp.inFrame; simp [ItS.mark]) | (simp [Sp.inFrame, ItS.mark]), by omega, _, ⟨B', Hfin.out.1⟩, Hfin.out.2.1, Hfin.out.2.2.1, Hfin.out.2.2.2⟩, by simp [intOf]; omega⟩
        · exact fun _ _ _ _ _ _ h _ => h.elim
    · obtain rfl : j = n := by omega
      have Hrel : Hid (Inv w rb bd bx bw gb q d j (X0.playTo ps (k + 1)) V Ds2 B2 (fun _ => False) wr2 ∧ (X0.playTo ps (k + 1)).Spo V) := hide (by
        rw [Hs1.out]
        have h := HI2.out
        refine ⟨⟨h.rel.sub3 (fun b hb => ?_), h.res, h.box, h.sl, h.rows.congr (fun i hi => (Hlo.out.1 i hi).symm), h.marks, h.nodup, h.ge⟩, HV.out.1⟩
        rcases hb with h | h | h | h | h | h | h
        · exact .inl h
        · exact .inr (.inl h)
        · exact .inr (.inr (.inl h))
        · exact .inr (.inr (.inr (.inl h)))
        · exact .inr (.inr (.inr (.inr (.inl h))))
        · exact .inr (.inr (.inr (.inr (.inr (.inl h)))))
        · exact h.elim)
      have hk60 : ps.length ≤ 60 := Hn1.out
      go_wp2_with fail
      exact ⟨⟨k + 1, Ds2, V, B2, by first | rfl | (simp only [Int.natCast_add]; rfl), by omega, Hrel.out.1, Hrel.out.2⟩, by simp [intOf]; omega⟩
  · obtain rfl : k = ps.length := by omega
    clear Hsucc
    have Hw := hide HI.out.rel.world
    have Hkb := hide HI.out.res
    have HDs := hide (And.intro HI.out.marks HI.out.nodup)
    have c0 := Hkb.out.cell 0
    have f0 := Hkb.out.frozen 0
    go_wp2_with fail
    refine ItS.leaves_marks Ds _ (fun D hD => ?_) HDs.out.2 (fun w' hw' => ?_)
    · have h9 := HDs.out.1 D hD
      exact (Below.heap_setCell wr ⟨rb, 0, none⟩ _ D (by have := h9.2; dsimp only; omega)).trans h9.1
    · have hn : rb ∉ Ds := fun hD => by have := (HDs.out.1 _ hD).2; omega
      have hc : w'.cell? ⟨rb, 0, none⟩ = some (.bool true) := by
        have hk : w'.heap[rb]? = (wr.setCell ⟨rb, 0, none⟩ (.bool true)).heap[rb]? := hw'.2.2.2.2 _ hn
        have := (Hkb.out.set_ 0 (.bool true)).of_heap hk rfl
        simpa using this.cell 0
      refine ⟨.bool true, by simp [results, Try.f11, go_sem, hc], rfl, ?_⟩
      have := Hrb.out
      exact (Hw.out.setCell (p := ⟨rb, 0, none⟩) (by dsimp only; omega) _).trans (ItS.below_marks hw' (fun D hD => by have := (HDs.out.1 D hD).2; omega))
end Go.Proofs.Ytdinbhanekpjoaa

/-
  PlanSpoilt answers true for every number of zones, size, bound and slice of steps, and each argument reads behind the call as it read before: no condition.
-/
namespace Go.Proofs.Ytdinbhanekpjoaa.planSpoilt
open Go.ChangeShapes Go.WideShapes Go.ChangeAt Go.RowKit

set_option maxRecDepth 100000 in
set_option maxHeartbeats 2000000 in
theorem any (zones size op : Int) (A1 : Option Addr) (cap1 : Nat) (ps : List OpP) (w : World) (h1 : CameOps8 w A1 ps) (b1 : ps.length ≤ maxLen) (hby : ∀ p ∈ ps, p.o.s.Byte) :
    Calls Try.prog 11 #[.int .i64 zones, .int .i64 size, .int .i64 op, .slice A1 ps.length cap1] w fun e w' => e = .returned (.bool true) ∧ Below w.heap.size w w' := by
  unfold maxLen at b1
  by_cases hr : 1 ≤ zones ∧ zones ≤ 40 ∧ 1 ≤ size ∧ size ≤ 64 ∧ 1 ≤ op ∧ op ≤ 64
  · obtain ⟨r1, r2, r3, r4, r5, r6⟩ := hr
    obtain ⟨n, rfl⟩ := Int.eq_ofNat_of_zero_le (show 0 ≤ zones by omega)
    by_cases hlen : ps.length ≤ 60
    · exact spoilt8_walk n size op A1 cap1 ps w h1 (by omega) (by omega) r3 r4 r5 r6 hlen hby
    · have d3 : decide (60 < ps.length) = true := decide_eq_true (by omega)
      have d4 : decide ((60 : Int) < (ps.length : Int)) = true := decide_eq_true (by omega)
      have Hs := hide (fun w => started_yes n size op w (by omega) (by omega) r3 r4 r5 r6)
      clear hby h1 r1 r2 r3 r4 r5 r6 hlen b1
      go_enter Try.func11, Try.ntmps11
      go_upto_region 1 with (fail)
      have hb0 : Below w.heap.size w (w.alloc (.cells #[.bool false] 4)) := (Below.refl _ w).alloc (Nat.le_refl _) _
      have kb := Blk.new w 4 #[.bool false]
      generalize w.alloc _ = w0 at hb0 kb ⊢
      go_wp2_with fail
      refine (anchor8_any _).mono ?_
      rintro e w1 ⟨rfl, hb1⟩
      have kb1 : Blk w1 w.heap.size 4 _ := (hb1.block _ kb.lt).trans kb
      go_wp2_with fail
      refine (Hs.out _).mono ?_
      rintro e w2 ⟨q, d, A', c', rfl, F, G, es', hT, hb2, hF, hG⟩
      clear hT hF hG
      unfold agg8
      have kb2 : Blk w2 w.heap.size 4 _ := (hb2.block _ kb1.lt).trans kb1
      have c4 := kb2.cell 0
      have f4 := kb2.frozen 0
      have l4 := kb2.lt
      clear kb kb1
      go_wp2_with fail
      refine bodyPost_ret (v := .bool true) (by simp [results, Try.f11, go_sem, c4, l4]) rfl ⟨rfl, ?_⟩
      exact (((((hb0.trans (hb1.mono hb0.size)).trans (hb2.mono (Nat.le_trans hb0.size hb1.size))).setCell (p := ⟨w.heap.size, 0, none⟩) (Nat.le_refl _) _).alloc (by have := hb0.size; have := hb1.size; have := hb2.size; simp; try omega) _).alloc (by have := hb0.size; have := hb1.size; have := hb2.size; simp; try omega) _)
  · have Hs := hide (fun w => started_no zones size op w hr)
    clear hby h1 hr b1
    go_enter Try.func11, Try.ntmps11
    go_upto_region 1 with (fail)
    have hb0 : Below w.heap.size w (w.alloc (.cells #[.bool false] 4)) := (Below.refl _ w).alloc (Nat.le_refl _) _
    have kb := Blk.new w 4 #[.bool false]
    generalize w.alloc _ = w0 at hb0 kb ⊢
    go_wp2_with fail
    refine (anchor8_any _).mono ?_
    rintro e w1 ⟨rfl, hb1⟩
    have kb1 : Blk w1 w.heap.size 4 _ := (hb1.block _ kb.lt).trans kb
    go_wp2_with fail
    refine (Hs.out _).mono ?_
    rintro e w2 ⟨rfl, hb2⟩
    have kb2 : Blk w2 w.heap.size 4 _ := (hb2.block _ kb1.lt).trans kb1
    have c4 := kb2.cell 0
    have f4 := kb2.frozen 0
    have l4 := kb2.lt
    clear kb kb1
    go_wp2_with fail
    refine bodyPost_ret (v := .bool true) (by simp [results, Try.f11, go_sem, c4, l4]) rfl ⟨rfl, ?_⟩
    exact (((((hb0.trans (hb1.mono hb0.size)).trans (hb2.mono (Nat.le_trans hb0.size hb1.size))).setCell (p := ⟨w.heap.size, 0, none⟩) (Nat.le_refl _) _).alloc (by have := hb0.size; have := hb1.size; have := hb2.size; simp; try omega) _).alloc (by have := hb0.size; have := hb1.size; have := hb2.size; simp; try omega) _)

theorem own : ownKnob Try.prog.godebug = none := by kernel_rfl
theorem laidOut : laidOutB Try.prog = true := by kernel_rfl

set_option maxRecDepth 100000 in
theorem lifted (os : Os) (started : os.Started) (H : Type) (enc : TypeId × Value → H) :
    ReturnsInHanded {} Try.checked os 11 .any (Rows.planSpoiltSpec.pre6 enc Try.prog Try.f11 Rows.planSpoiltRow.domain false) (Rows.planSpoiltSpec.post enc Try.prog Try.f11 false true false false) := by
  refine returnsInHanded_of_change (C := Try.checked) own started (by kernel_rfl) Try.func11
    (ChangeSpec.witness6 (enc := enc) (C := Try.checked) false ⟨#[], #[.int .i64 0, .int .i64 0, .int .i64 0, .slice none 0 0], []⟩ 8 (by kernel_rfl) (by kernel_rfl) (by kernel_rfl) (by kernel_rfl)) ?_
  intro W base args ds gs before hval0 hW hcnd _
  have hval : ∀ (j : Nat) t v, Try.f11.params[j]? = some t → args[j]? = some v → Value.okWide Try.prog W .any base t v := hval0
  have hW' := hW
  obtain ⟨p, q, hA0, hV, rfl, hfz, hnd⟩ := hW
  have hA : DataW.TrodAll enc Try.prog W 0 (fun _ => true) true Try.f11.params.toList args.toList ds p := hA0
  rw [Try.params11] at hA hval
  obtain ⟨v0, v1, v2, v3, d0, d1, d2, d3, p0, p1, p2, p3, rfl, rfl, rfl, h0, h1, h2, h3⟩ := trodAll_four hA
  obtain ⟨rfl, rfl⟩ := trodVars_none hV
  obtain ⟨zones, rfl, rfl, rfl, wa⟩ := open_int Try.underlying3 (hval 0 3 v0 rfl rfl) h0
  obtain ⟨size, rfl, rfl, rfl, wb⟩ := open_int Try.underlying3 (hval 1 3 v1 rfl rfl) h1
  obtain ⟨op, rfl, rfl, rfl, wc⟩ := open_int Try.underlying3 (hval 2 3 v2 rfl rfl) h2
  obtain ⟨a1, len1, cap1, rfl⟩ := okWide_slice Try.underlying58 (hval 3 58 v3 rfl rfl)
  clear hA0 hval0
  have hlt1 : ∀ x ∈ p3, x.block < W.heap.size := fun x hx => hW'.lt x (by simp [hx])
  obtain ⟨hm1, ps1, rfl, hc1, hby1⟩ := ops8_came2 h3 rfl
  refine (any zones size op a1 cap1 ps1 W hc1 hm1 hby1).mono fun e W' ⟨he, hb⟩ => ?_
  subst he
  refine ⟨_, rfl, _, _, _, [], [] ++ [] ++ [] ++ p3, [], hW', trodAll_mk1 (shut_bool Try.underlying4 true), ?_, rfl, hb.frame _, fun h => by cases h⟩
  exact trodAll_mk4 (shut_int Try.underlying3 wa) (shut_int Try.underlying3 wb) (shut_int Try.underlying3 wc) (Below.trod laidOut (by kernel_rfl) (of_decide_eq_true (by kernel_rfl)) h3 hb hlt1)

theorem proved : Rows.PlanSpoiltSaid :=
  OpenClaim.holds_of_wide 11 Try.f11 rfl rfl rfl rfl rfl rfl rfl ⟨rfl, rfl, rfl, rfl, rfl⟩ rfl rfl rfl rfl rfl (by kernel_rfl) Try.func11 (by kernel_rfl)
    (of_decide_eq_true (by kernel_rfl)) (by unfold Func.isWrapper; first | (rw [if_pos (by decide +kernel)]; kernel_rfl) | (rw [if_neg (by decide +kernel)]; exact ⟨rfl, rfl⟩))
    (fun os started H enc _ => lifted os started H enc)
end Go.Proofs.Ytdinbhanekpjoaa.planSpoilt
