/-
  The document's drive: how it lies in memory; what happens to it.
-/
import Derived.Test.YtdinbhanekpjoaaQE
namespace Go.Proofs.Ytdinbhanekpjoaa
open Go.RowKit
theorem Blk.seven {w : World} {g : Nat} {t : TypeId} {v0 v1 v2 v3 v4 v5 v6 : Value} (h : Blk w g t #[v0, v1, v2, v3, v4, v5, v6]) :
    w.cell? ⟨g, 0, none⟩ = some v0 ∧ w.cell? ⟨g, 1, none⟩ = some v1 ∧ w.cell? ⟨g, 2, none⟩ = some v2 ∧ w.cell? ⟨g, 3, none⟩ = some v3 ∧ w.cell? ⟨g, 4, none⟩ = some v4 ∧ w.cell? ⟨g, 5, none⟩ = some v5 ∧ w.cell? ⟨g, 6, none⟩ = some v6 ∧
    w.frozen? ⟨g, 0, none⟩ = false ∧ w.frozen? ⟨g, 1, none⟩ = false ∧ w.frozen? ⟨g, 2, none⟩ = false ∧ w.frozen? ⟨g, 3, none⟩ = false ∧ w.frozen? ⟨g, 4, none⟩ = false ∧ w.frozen? ⟨g, 5, none⟩ = false ∧ w.frozen? ⟨g, 6, none⟩ = false :=
  ⟨h.cell 0, h.cell 1, h.cell 2, h.cell 3, h.cell 4, h.cell 5, h.cell 6, h.frozen 0, h.frozen 1, h.frozen 2, h.frozen 3, h.frozen 4, h.frozen 5, h.frozen 6⟩
/-- Seven cells of a block are written. -/
abbrev put7 (w : World) (g : Nat) (v0 v1 v2 v3 v4 v5 v6 : Value) : World := (((((((w.setCell ⟨g, 0, none⟩ (v0)).setCell ⟨g, 1, none⟩ (v1)).setCell ⟨g, 2, none⟩ (v2)).setCell ⟨g, 3, none⟩ (v3)).setCell ⟨g, 4, none⟩ (v4)).setCell ⟨g, 5, none⟩ (v5)).setCell ⟨g, 6, none⟩ (v6))
theorem Blk.put7 {w : World} {g : Nat} {t : TypeId} {u0 u1 u2 u3 u4 u5 u6 : Value} (h : Blk w g t #[u0, u1, u2, u3, u4, u5, u6]) (v0 v1 v2 v3 v4 v5 v6 : Value) : Blk (put7 w g v0 v1 v2 v3 v4 v5 v6) g t #[v0, v1, v2, v3, v4, v5, v6] := by
  have h0 : Blk _ g t #[v0, u1, u2, u3, u4, u5, u6] := h.set_ 0 v0
  have h1 : Blk _ g t #[v0, v1, u2, u3, u4, u5, u6] := h0.set_ 1 v1
  have h2 : Blk _ g t #[v0, v1, v2, u3, u4, u5, u6] := h1.set_ 2 v2
  have h3 : Blk _ g t #[v0, v1, v2, v3, u4, u5, u6] := h2.set_ 3 v3
  have h4 : Blk _ g t #[v0, v1, v2, v3, v4, u5, u6] := h3.set_ 4 v4
  have h5 : Blk _ g t #[v0, v1, v2, v3, v4, v5, u6] := h4.set_ 5 v5
  have h6 : Blk _ g t #[v0, v1, v2, v3, v4, v5, v6] := h5.set_ 6 v6
  exact h6
theorem Mods.put7 (S : Nat → Prop) (w : World) (g : Nat) (v0 v1 v2 v3 v4 v5 v6 : Value) (h : S g) : Mods S w (put7 w g v0 v1 v2 v3 v4 v5 v6) :=
  (((((((Mods.refl S w).setCell (p := ⟨g, 0, none⟩) (.inl h) v0).setCell (p := ⟨g, 1, none⟩) (.inl h) v1).setCell (p := ⟨g, 2, none⟩) (.inl h) v2).setCell (p := ⟨g, 3, none⟩) (.inl h) v3).setCell (p := ⟨g, 4, none⟩) (.inl h) v4).setCell (p := ⟨g, 5, none⟩) (.inl h) v5).setCell (p := ⟨g, 6, none⟩) (.inl h) v6
/-- The first five of seven cells are written. -/
theorem Blk.set5of7 {w : World} {g : Nat} {t : TypeId} {u0 u1 u2 u3 u4 u5 u6 : Value} (h : Blk w g t #[u0, u1, u2, u3, u4, u5, u6]) (v0 v1 v2 v3 v4 : Value) :
    Blk (((((w.setCell ⟨g, 0, none⟩ v0).setCell ⟨g, 1, none⟩ v1).setCell ⟨g, 2, none⟩ v2).setCell ⟨g, 3, none⟩ v3).setCell ⟨g, 4, none⟩ v4) g t #[v0, v1, v2, v3, v4, u5, u6] :=
  by
  have h0 : Blk _ g t #[v0, u1, u2, u3, u4, u5, u6] := h.set_ 0 v0
  have h1 : Blk _ g t #[v0, v1, u2, u3, u4, u5, u6] := h0.set_ 1 v1
  have h2 : Blk _ g t #[v0, v1, v2, u3, u4, u5, u6] := h1.set_ 2 v2
  have h3 : Blk _ g t #[v0, v1, v2, v3, u4, u5, u6] := h2.set_ 3 v3
  exact h3.set_ 4 v4
theorem sizeD8 : (Try.prog.info? 62).map (·.size) = some 7 := by kernel_rfl

/-- The document's drive is X: its device's zones, the row of what is to come (read alone), the row of what happened. -/
structure Ref8 (w : World) (X : Dr) (A : Option Addr) (c : Nat) (es : List RZ) (Ac : Option Addr) (cc : Nat) (Ah : Option Addr) (ch : Nat) (G : Nat → Prop) : Prop where
  ref : RefIs w X.D A c es G
  com : Evs w G Ac X.coming
  comc : X.coming.length ≤ cc ∧ cc ≤ maxLen
  hap : w.ownsRow 0 116 68 (.slice Ah X.happened.length ch) X.happened.length (X.happened.flatMap EvV.cells)
  hapG : ∀ g, blkOf Ah = some g → G g
def agg8 (X : Dr) (A : Option Addr) (c : Nat) (Ac : Option Addr) (cc : Nat) (Ah : Option Addr) (ch : Nat) : Value := .agg #[.slice A X.D.zs.length c, .int .i64 X.D.size, .int .i64 X.D.op, .int .i64 (X.D.n : Int), .bool X.D.down, .slice Ac X.coming.length cc, .slice Ah X.happened.length ch]
/-- A call lays the drive X' anew. -/
def Gave8 (w : World) (G : Nat → Prop) (X' : Dr) (e : Ending) (w' : World) : Prop :=
  ∃ A c es Ac cc Ah ch, e = .returned (agg8 X' A c Ac cc Ah ch) ∧ Ref8 w' X' A c es Ac cc Ah ch (fun k => G k ∨ w.heap.size ≤ k) ∧ Below w.heap.size w w'
section
variable {w w' : World} {X : Dr} {A : Option Addr} {c : Nat} {es : List RZ} {Ac : Option Addr} {cc : Nat} {Ah : Option Addr} {ch m : Nat} {G G' S : Nat → Prop}
theorem Ref8.mods (h : Ref8 w X A c es Ac cc Ah ch G) (hm : Mods S w w') (hd : ∀ k, G k → k < w.heap.size → ¬ S k) : Ref8 w' X A c es Ac cc Ah ch G :=
  ⟨h.ref.mods hm hd, h.com.mods hm hd, h.comc, own_mods h.hap hm (fun g hg => hd g (h.hapG g (by rwa [own_blkOf] at hg)) (own_lt h.hap g hg)), h.hapG⟩
theorem Ref8.below (h : Ref8 w X A c es Ac cc Ah ch G) (hb : Below w.heap.size w w') : Ref8 w' X A c es Ac cc Ah ch G := h.mods (Mods.of_below hb (fun _ => False)) (fun _ _ _ h => h)
theorem Ref8.mono (h : Ref8 w X A c es Ac cc Ah ch G) (hG : ∀ k, G k → G' k) : Ref8 w X A c es Ac cc Ah ch G' := ⟨h.ref.mono hG, h.com.mono hG, h.comc, h.hap, fun g hg => hG g (h.hapG g hg)⟩
theorem Gave8.of {Y : Dr} {D' : Dv} {L M : List EvV} {e : Value} (hD : Y.D = D') (hC : Y.coming = L) (hH : Y.happened = M) (ref : RefIs w' D' A c es (fun k => G k ∨ w.heap.size ≤ k)) (com : Evs w' (fun k => G k ∨ w.heap.size ≤ k) Ac L) (comc : L.length ≤ cc ∧ cc ≤ maxLen)
    (hap : w'.ownsRow 0 116 68 (.slice Ah M.length ch) M.length (M.flatMap EvV.cells)) (hapG : ∀ g, blkOf Ah = some g → G g ∨ w.heap.size ≤ g) (hb : Below w.heap.size w w')
    (he : e = .agg #[.slice A D'.zs.length c, .int .i64 D'.size, .int .i64 D'.op, .int .i64 (D'.n : Int), .bool D'.down, .slice Ac L.length cc, .slice Ah M.length ch]) : Gave8 w G Y (.returned e) w' := by
  subst hD hC hH he
  exact ⟨A, c, es, Ac, cc, Ah, ch, rfl, ⟨ref, com, comc, hap, hapG⟩, hb⟩
theorem Ref8.tight (h : Ref8 w X A c es Ac cc Ah ch G) : Ref8 w X A c es Ac cc Ah ch (fun k => G k ∧ k < w.heap.size) :=
  ⟨h.ref.tight, h.com.tight, h.comc, h.hap, fun g hg => ⟨h.hapG g hg, own_lt h.hap g (by rw [own_blkOf]; exact hg)⟩⟩
end
namespace R8
section
variable {w w' : World} {X : Dr} {A : Option Addr} {c : Nat} {es : List RZ} {Ac : Option Addr} {cc : Nat} {Ah : Option Addr} {ch m : Nat} {G G' S : Nat → Prop}
set_option maxRecDepth 100000 in
set_option maxHeartbeats 2000000 in
theorem happen_any (h : Ref8 w X A c es Ac cc Ah ch G) (hl : X.D.zs.length < 65536) (hL : ∀ x ∈ X.D.zs, x.L.length < 65536) (hn : X.happened.length < 65000) (e : EvV) :
    Calls Try.prog 93 #[agg8 X A c Ac cc Ah ch, e.agg] w (Gave8 w G (X.happen e)) := by
  unfold EvV.agg agg8
  have hB : Below w.heap.size w (((w.alloc (.cells #[.slice A X.D.zs.length c, .int .i64 X.D.size, .int .i64 X.D.op, .int .i64 (X.D.n : Int), .bool X.D.down, .slice Ac X.coming.length cc, .slice Ah X.happened.length ch] 62)).alloc (.cells e.cells.toArray 116)).alloc (.cells #[.slice none 0 0, .int .i64 0, .int .i64 0, .int .i64 0, .bool false, .slice none 0 0, .slice none 0 0] 62)) := (((Below.refl _ w).alloc (Nat.le_refl _) _).alloc (by simp) _).alloc (by simp; omega) _
  have k0 := ((Blk.new w 62 #[.slice A X.D.zs.length c, .int .i64 X.D.size, .int .i64 X.D.op, .int .i64 (X.D.n : Int), .bool X.D.down, .slice Ac X.coming.length cc, .slice Ah X.happened.length ch]).alloc (.cells e.cells.toArray 116)).alloc (.cells #[.slice none 0 0, .int .i64 0, .int .i64 0, .int .i64 0, .bool false, .slice none 0 0, .slice none 0 0] 62)
  have ke := (Blk.new (w.alloc (.cells #[.slice A X.D.zs.length c, .int .i64 X.D.size, .int .i64 X.D.op, .int .i64 (X.D.n : Int), .bool X.D.down, .slice Ac X.coming.length cc, .slice Ah X.happened.length ch] 62)) 116 e.cells.toArray).alloc (.cells #[.slice none 0 0, .int .i64 0, .int .i64 0, .int .i64 0, .bool false, .slice none 0 0, .slice none 0 0] 62)
  have kr := Blk.new ((w.alloc (.cells #[.slice A X.D.zs.length c, .int .i64 X.D.size, .int .i64 X.D.op, .int .i64 (X.D.n : Int), .bool X.D.down, .slice Ac X.coming.length cc, .slice Ah X.happened.length ch] 62)).alloc (.cells e.cells.toArray 116)) 62 #[.slice none 0 0, .int .i64 0, .int .i64 0, .int .i64 0, .bool false, .slice none 0 0, .slice none 0 0]
  rw [World.size_alloc] at ke
  rw [World.size_alloc, World.size_alloc] at kr
  have hsz : (((w.alloc (.cells #[.slice A X.D.zs.length c, .int .i64 X.D.size, .int .i64 X.D.op, .int .i64 (X.D.n : Int), .bool X.D.down, .slice Ac X.coming.length cc, .slice Ah X.happened.length ch] 62)).alloc (.cells e.cells.toArray 116)).alloc (.cells #[.slice none 0 0, .int .i64 0, .int .i64 0, .int .i64 0, .bool false, .slice none 0 0, .slice none 0 0] 62)).heap.size = w.heap.size + 3 := by rw [World.size_alloc, World.size_alloc, World.size_alloc]
  have h3 := h.tight.below hB
  have Hn := hide hn
  have HL := hide (And.intro hl hL)
  clear h hn hl hL
  go_enter Try.func93, Try.ntmps93
  go_upto_region 1 with (fail)
  generalize ((w.alloc _).alloc _).alloc _ = W3 at hB k0 ke kr hsz h3 ⊢
  obtain ⟨i0, hi, hz0, hz1, hz2⟩ := info_parts E8.info
  have K0 := hide k0
  have KE := hide ke
  have KR := hide kr
  have H3 := hide h3
  have HB := hide hB
  have Hsz := hide hsz
  obtain ⟨a0, a1, a2, a3, a4, a5, a6, -⟩ := k0.seven
  clear k0 ke kr h3 hB hsz
  -- the copy of what happened
  go_upto_region 3 with (at_builtin; refine wpList_append_src _ rfl (.tmp 6) (.tmp 8) 60 rfl (w.heap.size + 3) 116 i0 _ 68 96 Try.underlying60 hi hz0 hz1 hz2 (by simp [EvV.agg, Value.cells, EvV.length]) (by decide) (.slice none 0 0) 0 [] rfl (World.ownsRow_nil _ _ _ _) Ah X.happened.length ch (X.happened.flatMap EvV.cells) rfl H3.out.hap (evs_one _) (by have := Hn.out; unfold maxLen; omega) (by have := Hn.out; omega) (by rw [Hsz.out]; exact Nat.le_refl _) ?_; intro v1 w1 hown1 hgrow1 hat1; obtain ⟨B1, c1, rfl⟩ := own_form hown1; have Hown1 := hide hown1; have Hgrow1 := hide hgrow1; clear hown1 hgrow1 hat1)
  have hm1 : Mods (fun _ => False) W3 w1 := ⟨Hgrow1.out.os, Hgrow1.out.tape, Hgrow1.out.output, Hgrow1.out.size, fun k hk _ => Hgrow1.out.block k hk (fun e => by simp [Value.ownBlock] at e)⟩
  have hown1 := Hown1.out
  rw [Nat.zero_add, List.nil_append] at hown1
  have hb1 : Below W3.heap.size W3 w1 := hm1.below (Nat.le_refl _) (fun _ h => h.elim)
  have K01 := hide (show Blk w1 w.heap.size 62 _ from (hb1.block _ K0.out.lt).trans K0.out)
  have KE1 := hide (show Blk w1 (w.heap.size + 1) 116 _ from (hb1.block _ KE.out.lt).trans KE.out)
  have KR1 := hide (show Blk w1 (w.heap.size + 1 + 1) 62 _ from (hb1.block _ KR.out.lt).trans KR.out)
  have H31 := hide (H3.out.below hb1)
  have HB1 := hide (HB.out.trans (hb1.mono HB.out.size))
  have Hsz1 : Hid (w.heap.size + 3 ≤ w1.heap.size) := hide (by have := hb1.size; have := Hsz.out; omega)
  have HownA := hide hown1
  clear hm1 hb1 hown1 Hown1 Hgrow1 K0 KE KR H3 HB Hsz a0 a1 a2 a3 a4 a5 a6
  obtain ⟨a0, a1, a2, a3, a4, a5, a6, -⟩ := K01.out.seven
  have hbA : Below w1.heap.size w1 (w1.alloc (.cells e.cells.toArray 116)) := (Below.refl _ w1).alloc (Nat.le_refl _) _
  have HownB := hide (own_mods HownA.out (Mods.of_below hbA (fun _ => False)) (fun _ _ h => h))
  have Hsrc := hide (own_ev e (heap_alloc_new w1 (.cells e.cells.toArray 116)))
  have HbA := hide hbA
  clear hbA
  go_upto_region 4 with (first | ((with_reducible refine wpList_load_mid ?g1 116 (.tmp 3) ?o1 (w.heap.size + 1) (0) ?x1 e.cells ?d1 ?r1 ?u1 ?f1 ?i1 ?_); (case g1 => exact rfl); (case o1 => exact rfl); (case x1 => exact rfl); (case r1 => exact e.range KE1.out); (case u1 => exact Try.underlying116); (case f1 => exact rfl); (case i1 => exact E8.size _)) | ((with_reducible refine E8.wpList_build1 ?g4 e (.tmp 11) ?o4 ?p4 ?_); (case g4 => exact rfl); (case o4 => exact rfl); (case p4 => exact rfl)) | (at_builtin; refine wpList_append_src _ rfl (.tmp 10) (.tmp 12) 60 rfl (w.heap.size + 3) 116 i0 _ 68 96 Try.underlying60 hi hz0 hz1 hz2 (by simp [EvV.agg, Value.cells, EvV.length]) (by decide) (.slice B1 X.happened.length c1) X.happened.length (X.happened.flatMap EvV.cells) rfl HownB.out _ 1 1 e.cells rfl Hsrc.out e.one (by have := Hn.out; unfold maxLen; omega) (by have := Hn.out; omega) (by have := Hsz1.out; simp; omega) ?_; intro v2 w2 hown2 hgrow2 hat2; obtain ⟨B2, c2, rfl⟩ := own_form hown2; have hm2 := (((Mods.refl (fun k => w.heap.size + 3 ≤ k) w1).alloc (.cells e.cells.toArray 116)).grown hgrow2 (fun k hk => .inl (HownB.out.lt k hk).1)); have K02 := hide (K01.out.mods hm2 (by omega)); have f6 : w2.frozen? ⟨w.heap.size, 6, none⟩ = false := K02.out.frozen 6; have b6 : w2.cell? ⟨w.heap.size, 6, none⟩ = some (.slice Ah X.happened.length ch) := K02.out.cell 6; have Hown2 := hide hown2; have Hm2 := hide hm2; clear hown2 hgrow2 hat2 hm2))
  have hs2 := Hm2.out.size
  have hown2 : w2.ownsRow (w.heap.size + 3) 116 68 (.slice B2 (X.happened.length + 1) c2) (X.happened.length + 1) (X.happened.flatMap EvV.cells ++ e.cells) := Hown2.out
  have hmS : Mods (fun k => k = w.heap.size) w2 (w2.setCell ⟨w.heap.size, 6, none⟩ (.slice B2 (X.happened.length + 1) c2)) := (Mods.refl (fun k => k = w.heap.size) w2).setCell (p := ⟨w.heap.size, 6, none⟩) (.inl rfl) _
  have K04 : Blk (w2.setCell ⟨w.heap.size, 6, none⟩ (.slice B2 (X.happened.length + 1) c2)) w.heap.size 62 #[.slice A X.D.zs.length c, .int .i64 X.D.size, .int .i64 X.D.op, .int .i64 (X.D.n : Int), .bool X.D.down, .slice Ac X.coming.length cc, .slice B2 (X.happened.length + 1) c2] := K02.out.set_ 6 _
  have KE4 : Blk (w2.setCell ⟨w.heap.size, 6, none⟩ (.slice B2 (X.happened.length + 1) c2)) (w.heap.size + 1) 116 e.cells.toArray := (KE1.out.mods Hm2.out (by omega)).mods hmS (by omega)
  have KR4 : Blk (w2.setCell ⟨w.heap.size, 6, none⟩ (.slice B2 (X.happened.length + 1) c2)) (w.heap.size + 1 + 1) 62 #[.slice none 0 0, .int .i64 0, .int .i64 0, .int .i64 0, .bool false, .slice none 0 0, .slice none 0 0] := (KR1.out.mods Hm2.out (by omega)).mods hmS (by omega)
  have hm14 : Mods (fun k => w.heap.size ≤ k) w1 (w2.setCell ⟨w.heap.size, 6, none⟩ (.slice B2 (X.happened.length + 1) c2)) := (Hm2.out.mono (fun k _ hk => by omega)).trans hmS (fun k _ hk => by omega)
  have H34 := H31.out.mods hm14 (fun k hk _ hS => by have := hk.2; omega)
  have HB4 := HB1.out.trans (hm14.below HB1.out.size (fun k hk => hk))
  have hown4 := own_mods hown2 hmS (fun g hg e => by have := (hown2.lt g hg).1; omega)
  have hs4 := hmS.size
  generalize w2.setCell ⟨w.heap.size, 6, none⟩ (.slice B2 (X.happened.length + 1) c2) = w4 at K04 KE4 KR4 H34 HB4 hown4 hs4 ⊢
  have Hown4 := hide (show w4.ownsRow (w.heap.size + 3) 116 68 (.slice B2 (X.happened ++ [e]).length c2) (X.happened ++ [e]).length ((X.happened ++ [e]).flatMap EvV.cells) by rw [evs_snoc, List.length_append]; exact hown4)
  have ehl : X.happened.length + 1 = (X.happened ++ [e]).length := by simp
  rw [ehl] at K04
  rw [ehl]
  have K04h := hide K04
  have KE4h := hide KE4
  have KR4h := hide KR4
  have H34h := hide H34
  have HB4h := hide HB4
  have Hs4 : Hid (w.heap.size + 3 ≤ w4.heap.size) := hide (by have := Hsz1.out; omega)
  obtain ⟨k0, k1, k2, k3, k4, k5, k6, f0, f1, f2, f3, f4, f5, f6'⟩ := K04.seven
  obtain ⟨e0, e1, e2, e3, er⟩ := EvV.blk4 KE4
  obtain ⟨r0, r1, r2, r3, r4, r5, r6, s0, s1, s2, s3, s4, s5, s6⟩ := KR4.seven
  have Her := hide er
  clear hs2 hown2 hmS K04 KE4 KR4 hm14 H34 HB4 hown4 hs4 ehl er a0 a1 a2 a3 a4 a5 a6 b6 f6 K02 Hown2 Hm2 Hsrc HownB HbA HownA HB1 H31 KR1 KE1 K01 Hsz1 f5 f6'
  by_cases hk1 : e.kind = 1
  · have q1 : (e.kind == 1) = true := beq_iff_eq.2 hk1
    have q2 : (e.kind == 2) = false := beq_eq_false_iff_ne.2 (by omega)
    have q3 : (e.kind == 3) = false := beq_eq_false_iff_ne.2 (by omega)
    have q4 : (e.kind == 4) = false := beq_eq_false_iff_ne.2 (by omega)
    obtain ⟨D', hD'⟩ : ∃ D' : Dv, D' = (X.D.spoil e.zone e.off e.p).1 := ⟨_, rfl⟩
    have HD := hide (show (X.happen e).D = D' by rw [hD']; unfold Dr.happen; rw [if_pos hk1]; unfold Dr.spoil; split <;> rfl)
    have hcl := R7.spoil_any H34h.out.ref HL.out.1 HL.out.2 e.zone e.off e.p
    unfold Sec.agg at hcl
    rw [← hD'] at hcl
    have Hcl := hide hcl
    have Hcc := hide H34h.out.comc
    clear hcl hD' hk1
    go_wp2_with ((with_reducible refine wpList_load_mid ?g5 33 (.tmp 25) ?o5 (w.heap.size + 1) (4) ?x5 e.p.cs ?d5 ?r5 ?u5 ?f5 ?i5 ?_); (case g5 => exact rfl); (case o5 => exact rfl); (case x5 => exact rfl); (case r5 => exact Her.out); (case u5 => exact Try.underlying33); (case f5 => exact rfl); (case i5 => exact R7.sizeAx _))
    refine Hcl.out.mono ?_
    rintro en w5 ⟨A5, c5, es5, rfl, hr5, hb5⟩
    have K05 : Blk w5 w.heap.size 62 _ := (hb5.block _ K04h.out.lt).trans K04h.out
    have KE5 : Blk w5 (w.heap.size + 1) 116 _ := (hb5.block _ KE4h.out.lt).trans KE4h.out
    have KR5 : Blk w5 (w.heap.size + 1 + 1) 62 _ := (hb5.block _ KR4h.out.lt).trans KR4h.out
    have hmW : ∀ v0 v1 v2 v3 v4, Mods (fun k => k = w.heap.size) w5 (((((w5.setCell ⟨w.heap.size, 0, none⟩ v0).setCell ⟨w.heap.size, 1, none⟩ v1).setCell ⟨w.heap.size, 2, none⟩ v2).setCell ⟨w.heap.size, 3, none⟩ v3).setCell ⟨w.heap.size, 4, none⟩ v4) := fun v0 v1 v2 v3 v4 => Mods.set5 _ _ _ _ _ _ _ _ rfl
    have hm5 := hmW (.slice A5 D'.zs.length c5) (.int .i64 D'.size) (.int .i64 D'.op) (.int .i64 (D'.n : Int)) (.bool D'.down)
    have K06 := K05.set5of7 (.slice A5 D'.zs.length c5) (.int .i64 D'.size) (.int .i64 D'.op) (.int .i64 (D'.n : Int)) (.bool D'.down)
    have Hr6 := hide (hr5.mods hm5 (fun k hk _ e => by
      rcases hk with hk | hk
      · have := hk.2; omega
      · have := Hs4.out; omega))
    have Hc6 := hide ((H34h.out.com.below hb5).mods hm5 (fun k hk _ e => by have := hk.2; omega))
    have Hown6 := hide (own_mods (own_mods Hown4.out (Mods.of_below hb5 (fun _ => False)) (fun _ _ h => h)) hm5 (fun g hg e => by have := (Hown4.out.lt g hg).1; omega))
    have KE6 := KE5.mods hm5 (by omega)
    have kr6 := KR5.mods hm5 (by omega)
    have HB5 := HB4h.out.trans (hb5.mono HB4h.out.size)
    have HB6 := hide (HB5.trans (hm5.below HB5.size (fun k e => by omega)))
    obtain ⟨k0, k1, k2, k3, k4, k5, k6, f0, f1, f2, f3, f4, -⟩ := K05.seven
    clear hmW hm5 HB5 hr5 Hcl Hown4 HB4h Her e0 e1 e2 e3 r0 r1 r2 r3 r4 r5 r6 s0 s1 s2 s3 s4 s5 s6 KE5 KR5 K05 KE4h KR4h K04h H34h
    go_upto_region 6 with (fail)
    generalize ((((w5.setCell _ _).setCell _ _).setCell _ _).setCell _ _).setCell _ _ = w6 at K06 Hr6 Hc6 Hown6 KE6 kr6 HB6 ⊢
    clear k0 k1 k2 k3 k4 k5 k6 f0 f1 f2 f3 f4 hb5
    have KR6 := hide kr6
    obtain ⟨k0, k1, k2, k3, k4, k5, k6, -⟩ := K06.seven
    obtain ⟨e0, e1, e2, e3, -⟩ := EvV.blk4 KE6
    obtain ⟨r0, r1, r2, r3, r4, r5, r6, s0, s1, s2, s3, s4, s5, s6⟩ := kr6.seven
    clear K06 KE6 kr6
    go_wp2_with fail
    refine bodyPost_ret (v := .agg #[.slice A5 (D').zs.length c5, .int .i64 (D').size, .int .i64 (D').op, .int .i64 ((D').n : Int), .bool (D').down, .slice Ac X.coming.length cc, .slice B2 (X.happened.length + 1) c2]) ?_ rfl ?_
    · exact results_cell_row (fn := Try.f93) (p := 4) rfl _ _ (w.heap.size + 1 + 1) 62 _ (0, 0) _ rfl (KR6.out.put7 _ _ _ _ _ _ _) Try.underlying62 rfl sizeD8
    · have hmR : ∀ v0 v1 v2 v3 v4 v5 v6, Mods (fun k => k = w.heap.size + 1 + 1) w6 (put7 w6 (w.heap.size + 1 + 1) v0 v1 v2 v3 v4 v5 v6) := fun v0 v1 v2 v3 v4 v5 v6 => Mods.put7 _ _ _ _ _ _ _ _ _ _ rfl
      refine Gave8.of HD.out (Dr.happen_coming X e) (Dr.happen_happened X e) ((Hr6.out.mods (hmR _ _ _ _ _ _ _) ?_).mono ?_) ((Hc6.out.mods (hmR _ _ _ _ _ _ _) ?_).mono ?_) Hcc.out (own_base (own_mods Hown6.out (hmR _ _ _ _ _ _ _) ?_)) ?_ (HB6.out.trans ((hmR _ _ _ _ _ _ _).below HB6.out.size (fun k e => by omega))) (by rw [show (X.happened ++ [e]).length = X.happened.length + 1 by simp])
      · rintro k (hk | hk) _ e
        · have := hk.2; omega
        · have := Hs4.out; omega
      · rintro k (hk | hk)
        · exact .inl hk.1
        · right; have := Hs4.out; omega
      · rintro k hk _ e
        have := hk.2; omega
      · intro k hk
        exact .inl hk.1
      · intro g hg e
        have := (Hown6.out.lt g hg).1; omega
      · intro g hg
        right
        have := (Hown6.out.lt g (by rw [own_blkOf]; exact hg)).1; omega
  · by_cases hk2 : e.kind = 2
    · have q1 : (e.kind == 1) = false := beq_eq_false_iff_ne.2 hk1
      have q2 : (e.kind == 2) = true := beq_iff_eq.2 hk2
      have q3 : (e.kind == 3) = false := beq_eq_false_iff_ne.2 (by omega)
      have q4 : (e.kind == 4) = false := beq_eq_false_iff_ne.2 (by omega)
      obtain ⟨D', hD'⟩ : ∃ D' : Dv, D' = (X.D.fail e.zone 3).1 := ⟨_, rfl⟩
      have HD := hide (show (X.happen e).D = D' by rw [hD']; unfold Dr.happen; rw [if_neg hk1, if_pos hk2])
      have hcl := R7.fail_any H34h.out.ref HL.out.1 e.zone 3
      skip
      rw [← hD'] at hcl
      have Hcl := hide hcl
      have Hcc := hide H34h.out.comc
      clear hcl hD' hk1 hk2
      go_wp2_with fail
      refine Hcl.out.mono ?_
      rintro en w5 ⟨A5, c5, es5, rfl, hr5, hb5⟩
      have K05 : Blk w5 w.heap.size 62 _ := (hb5.block _ K04h.out.lt).trans K04h.out
      have KE5 : Blk w5 (w.heap.size + 1) 116 _ := (hb5.block _ KE4h.out.lt).trans KE4h.out
      have KR5 : Blk w5 (w.heap.size + 1 + 1) 62 _ := (hb5.block _ KR4h.out.lt).trans KR4h.out
      have hmW : ∀ v0 v1 v2 v3 v4, Mods (fun k => k = w.heap.size) w5 (((((w5.setCell ⟨w.heap.size, 0, none⟩ v0).setCell ⟨w.heap.size, 1, none⟩ v1).setCell ⟨w.heap.size, 2, none⟩ v2).setCell ⟨w.heap.size, 3, none⟩ v3).setCell ⟨w.heap.size, 4, none⟩ v4) := fun v0 v1 v2 v3 v4 => Mods.set5 _ _ _ _ _ _ _ _ rfl
      have hm5 := hmW (.slice A5 D'.zs.length c5) (.int .i64 D'.size) (.int .i64 D'.op) (.int .i64 (D'.n : Int)) (.bool D'.down)
      have K06 := K05.set5of7 (.slice A5 D'.zs.length c5) (.int .i64 D'.size) (.int .i64 D'.op) (.int .i64 (D'.n : Int)) (.bool D'.down)
      have Hr6 := hide (hr5.mods hm5 (fun k hk _ e => by
        rcases hk with hk | hk
        · have := hk.2; omega
        · have := Hs4.out; omega))
      have Hc6 := hide ((H34h.out.com.below hb5).mods hm5 (fun k hk _ e => by have := hk.2; omega))
      have Hown6 := hide (own_mods (own_mods Hown4.out (Mods.of_below hb5 (fun _ => False)) (fun _ _ h => h)) hm5 (fun g hg e => by have := (Hown4.out.lt g hg).1; omega))
      have KE6 := KE5.mods hm5 (by omega)
      have kr6 := KR5.mods hm5 (by omega)
      have HB5 := HB4h.out.trans (hb5.mono HB4h.out.size)
      have HB6 := hide (HB5.trans (hm5.below HB5.size (fun k e => by omega)))
      obtain ⟨k0, k1, k2, k3, k4, k5, k6, f0, f1, f2, f3, f4, -⟩ := K05.seven
      clear hmW hm5 HB5 hr5 Hcl Hown4 HB4h Her e0 e1 e2 e3 r0 r1 r2 r3 r4 r5 r6 s0 s1 s2 s3 s4 s5 s6 KE5 KR5 K05 KE4h KR4h K04h H34h
      go_upto_region 8 with (fail)
      generalize ((((w5.setCell _ _).setCell _ _).setCell _ _).setCell _ _).setCell _ _ = w6 at K06 Hr6 Hc6 Hown6 KE6 kr6 HB6 ⊢
      clear k0 k1 k2 k3 k4 k5 k6 f0 f1 f2 f3 f4 hb5
      have KR6 := hide kr6
      obtain ⟨k0, k1, k2, k3, k4, k5, k6, -⟩ := K06.seven
      obtain ⟨e0, e1, e2, e3, -⟩ := EvV.blk4 KE6
      obtain ⟨r0, r1, r2, r3, r4, r5, r6, s0, s1, s2, s3, s4, s5, s6⟩ := kr6.seven
      clear K06 KE6 kr6
      go_wp2_with fail
      refine bodyPost_ret (v := .agg #[.slice A5 (D').zs.length c5, .int .i64 (D').size, .int .i64 (D').op, .int .i64 ((D').n : Int), .bool (D').down, .slice Ac X.coming.length cc, .slice B2 (X.happened.length + 1) c2]) ?_ rfl ?_
      · exact results_cell_row (fn := Try.f93) (p := 4) rfl _ _ (w.heap.size + 1 + 1) 62 _ (0, 0) _ rfl (KR6.out.put7 _ _ _ _ _ _ _) Try.underlying62 rfl sizeD8
      · have hmR : ∀ v0 v1 v2 v3 v4 v5 v6, Mods (fun k => k = w.heap.size + 1 + 1) w6 (put7 w6 (w.heap.size + 1 + 1) v0 v1 v2 v3 v4 v5 v6) := fun v0 v1 v2 v3 v4 v5 v6 => Mods.put7 _ _ _ _ _ _ _ _ _ _ rfl
        refine Gave8.of HD.out (Dr.happen_coming X e) (Dr.happen_happened X e) ((Hr6.out.mods (hmR _ _ _ _ _ _ _) ?_).mono ?_) ((Hc6.out.mods (hmR _ _ _ _ _ _ _) ?_).mono ?_) Hcc.out (own_base (own_mods Hown6.out (hmR _ _ _ _ _ _ _) ?_)) ?_ (HB6.out.trans ((hmR _ _ _ _ _ _ _).below HB6.out.size (fun k e => by omega))) (by rw [show (X.happened ++ [e]).length = X.happened.length + 1 by simp])
        · rintro k (hk | hk) _ e
          · have := hk.2; omega
          · have := Hs4.out; omega
        · rintro k (hk | hk)
          · exact .inl hk.1
          · right; have := Hs4.out; omega
        · rintro k hk _ e
          have := hk.2; omega
        · intro k hk
          exact .inl hk.1
        · intro g hg e
          have := (Hown6.out.lt g hg).1; omega
        · intro g hg
          right
          have := (Hown6.out.lt g (by rw [own_blkOf]; exact hg)).1; omega
    · by_cases hk3 : e.kind = 3
      · have q1 : (e.kind == 1) = false := beq_eq_false_iff_ne.2 hk1
        have q2 : (e.kind == 2) = false := beq_eq_false_iff_ne.2 hk2
        have q3 : (e.kind == 3) = true := beq_iff_eq.2 hk3
        have q4 : (e.kind == 4) = false := beq_eq_false_iff_ne.2 (by omega)
        obtain ⟨D', hD'⟩ : ∃ D' : Dv, D' = (X.D.fail e.zone 4).1 := ⟨_, rfl⟩
        have HD := hide (show (X.happen e).D = D' by rw [hD']; unfold Dr.happen; rw [if_neg hk1, if_neg hk2, if_pos hk3])
        have hcl := R7.fail_any H34h.out.ref HL.out.1 e.zone 4
        skip
        rw [← hD'] at hcl
        have Hcl := hide hcl
        have Hcc := hide H34h.out.comc
        clear hcl hD' hk1 hk2 hk3
        go_wp2_with fail
        refine Hcl.out.mono ?_
        rintro en w5 ⟨A5, c5, es5, rfl, hr5, hb5⟩
        have K05 : Blk w5 w.heap.size 62 _ := (hb5.block _ K04h.out.lt).trans K04h.out
        have KE5 : Blk w5 (w.heap.size + 1) 116 _ := (hb5.block _ KE4h.out.lt).trans KE4h.out
        have KR5 : Blk w5 (w.heap.size + 1 + 1) 62 _ := (hb5.block _ KR4h.out.lt).trans KR4h.out
        have hmW : ∀ v0 v1 v2 v3 v4, Mods (fun k => k = w.heap.size) w5 (((((w5.setCell ⟨w.heap.size, 0, none⟩ v0).setCell ⟨w.heap.size, 1, none⟩ v1).setCell ⟨w.heap.size, 2, none⟩ v2).setCell ⟨w.heap.size, 3, none⟩ v3).setCell ⟨w.heap.size, 4, none⟩ v4) := fun v0 v1 v2 v3 v4 => Mods.set5 _ _ _ _ _ _ _ _ rfl
        have hm5 := hmW (.slice A5 D'.zs.length c5) (.int .i64 D'.size) (.int .i64 D'.op) (.int .i64 (D'.n : Int)) (.bool D'.down)
        have K06 := K05.set5of7 (.slice A5 D'.zs.length c5) (.int .i64 D'.size) (.int .i64 D'.op) (.int .i64 (D'.n : Int)) (.bool D'.down)
        have Hr6 := hide (hr5.mods hm5 (fun k hk _ e => by
          rcases hk with hk | hk
          · have := hk.2; omega
          · have := Hs4.out; omega))
        have Hc6 := hide ((H34h.out.com.below hb5).mods hm5 (fun k hk _ e => by have := hk.2; omega))
        have Hown6 := hide (own_mods (own_mods Hown4.out (Mods.of_below hb5 (fun _ => False)) (fun _ _ h => h)) hm5 (fun g hg e => by have := (Hown4.out.lt g hg).1; omega))
        have KE6 := KE5.mods hm5 (by omega)
        have kr6 := KR5.mods hm5 (by omega)
        have HB5 := HB4h.out.trans (hb5.mono HB4h.out.size)
        have HB6 := hide (HB5.trans (hm5.below HB5.size (fun k e => by omega)))
        obtain ⟨k0, k1, k2, k3, k4, k5, k6, f0, f1, f2, f3, f4, -⟩ := K05.seven
        clear hmW hm5 HB5 hr5 Hcl Hown4 HB4h Her e0 e1 e2 e3 r0 r1 r2 r3 r4 r5 r6 s0 s1 s2 s3 s4 s5 s6 KE5 KR5 K05 KE4h KR4h K04h H34h
        go_upto_region 10 with (fail)
        generalize ((((w5.setCell _ _).setCell _ _).setCell _ _).setCell _ _).setCell _ _ = w6 at K06 Hr6 Hc6 Hown6 KE6 kr6 HB6 ⊢
        clear k0 k1 k2 k3 k4 k5 k6 f0 f1 f2 f3 f4 hb5
        have KR6 := hide kr6
        obtain ⟨k0, k1, k2, k3, k4, k5, k6, -⟩ := K06.seven
        obtain ⟨e0, e1, e2, e3, -⟩ := EvV.blk4 KE6
        obtain ⟨r0, r1, r2, r3, r4, r5, r6, s0, s1, s2, s3, s4, s5, s6⟩ := kr6.seven
        clear K06 KE6 kr6
        go_wp2_with fail
        refine bodyPost_ret (v := .agg #[.slice A5 (D').zs.length c5, .int .i64 (D').size, .int .i64 (D').op, .int .i64 ((D').n : Int), .bool (D').down, .slice Ac X.coming.length cc, .slice B2 (X.happened.length + 1) c2]) ?_ rfl ?_
        · exact results_cell_row (fn := Try.f93) (p := 4) rfl _ _ (w.heap.size + 1 + 1) 62 _ (0, 0) _ rfl (KR6.out.put7 _ _ _ _ _ _ _) Try.underlying62 rfl sizeD8
        · have hmR : ∀ v0 v1 v2 v3 v4 v5 v6, Mods (fun k => k = w.heap.size + 1 + 1) w6 (put7 w6 (w.heap.size + 1 + 1) v0 v1 v2 v3 v4 v5 v6) := fun v0 v1 v2 v3 v4 v5 v6 => Mods.put7 _ _ _ _ _ _ _ _ _ _ rfl
          refine Gave8.of HD.out (Dr.happen_coming X e) (Dr.happen_happened X e) ((Hr6.out.mods (hmR _ _ _ _ _ _ _) ?_).mono ?_) ((Hc6.out.mods (hmR _ _ _ _ _ _ _) ?_).mono ?_) Hcc.out (own_base (own_mods Hown6.out (hmR _ _ _ _ _ _ _) ?_)) ?_ (HB6.out.trans ((hmR _ _ _ _ _ _ _).below HB6.out.size (fun k e => by omega))) (by rw [show (X.happened ++ [e]).length = X.happened.length + 1 by simp])
          · rintro k (hk | hk) _ e
            · have := hk.2; omega
            · have := Hs4.out; omega
          · rintro k (hk | hk)
            · exact .inl hk.1
            · right; have := Hs4.out; omega
          · rintro k hk _ e
            have := hk.2; omega
          · intro k hk
            exact .inl hk.1
          · intro g hg e
            have := (Hown6.out.lt g hg).1; omega
          · intro g hg
            right
            have := (Hown6.out.lt g (by rw [own_blkOf]; exact hg)).1; omega
      · by_cases hk4 : e.kind = 4
        · have q1 : (e.kind == 1) = false := beq_eq_false_iff_ne.2 hk1
          have q2 : (e.kind == 2) = false := beq_eq_false_iff_ne.2 hk2
          have q3 : (e.kind == 3) = false := beq_eq_false_iff_ne.2 hk3
          have q4 : (e.kind == 4) = true := beq_iff_eq.2 hk4
          obtain ⟨D', hD'⟩ : ∃ D' : Dv, D' = { X.D with down := true } := ⟨_, rfl⟩
          have HD := hide (show (X.happen e).D = D' by rw [hD']; unfold Dr.happen; rw [if_neg hk1, if_neg hk2, if_neg hk3, if_pos hk4])
          have Hcc := hide H34h.out.comc
          have hm5 : Mods (fun k => k = w.heap.size) w4 (w4.setCell ⟨w.heap.size, 4, none⟩ (.bool true)) := (Mods.refl (fun k => k = w.heap.size) w4).setCell (p := ⟨w.heap.size, 4, none⟩) (.inl rfl) _
          have K06 : Blk (w4.setCell ⟨w.heap.size, 4, none⟩ (.bool true)) w.heap.size 62 #[.slice A D'.zs.length c, .int .i64 D'.size, .int .i64 D'.op, .int .i64 (D'.n : Int), .bool D'.down, .slice Ac X.coming.length cc, .slice B2 (X.happened ++ [e]).length c2] := by rw [hD']; exact K04h.out.set_ 4 _
          have hr6 : RefIs (w4.setCell ⟨w.heap.size, 4, none⟩ (.bool true)) D' A c es (fun k => (G k ∧ k < w.heap.size) ∨ w4.heap.size ≤ k) := by
            have := (H34h.out.ref.mods hm5 (fun k hk _ e => by have := hk.2; omega)).mono (G' := fun k => (G k ∧ k < w.heap.size) ∨ w4.heap.size ≤ k) (fun k hk => .inl hk)
            rw [hD']
            exact ⟨this.zs, this.own, this.row, this.inG⟩
          have Hr6 := hide hr6
          have Hc6 := hide (H34h.out.com.mods hm5 (fun k hk _ e => by have := hk.2; omega))
          have Hown6 := hide (own_mods Hown4.out hm5 (fun g hg e => by have := (Hown4.out.lt g hg).1; omega))
          have kr6 := KR4h.out.mods hm5 (by omega)
          have HB6 := hide (HB4h.out.trans (hm5.below HB4h.out.size (fun k e => by omega)))
          clear hD' hk1 hk2 hk3 hk4 hr6 hm5 Her Hown4 HB4h H34h KE4h KR4h K04h r0 r1 r2 r3 r4 r5 r6 s0 s1 s2 s3 s4 s5 s6
          go_upto_region 12 with (fail)
          generalize w4.setCell _ _ = w6 at K06 Hr6 Hc6 Hown6 kr6 HB6 ⊢
          clear k0 k1 k2 k3 k4 k5 k6 f0 f1 f2 f3 f4 e0 e1 e2 e3
          have KR6 := hide kr6
          obtain ⟨k0, k1, k2, k3, k4, k5, k6, -⟩ := K06.seven
          obtain ⟨r0, r1, r2, r3, r4, r5, r6, s0, s1, s2, s3, s4, s5, s6⟩ := kr6.seven
          clear K06 kr6
          go_wp2_with fail
          refine bodyPost_ret (v := .agg #[.slice A (D').zs.length c, .int .i64 (D').size, .int .i64 (D').op, .int .i64 ((D').n : Int), .bool (D').down, .slice Ac X.coming.length cc, .slice B2 (X.happened.length + 1) c2]) ?_ rfl ?_
          · exact results_cell_row (fn := Try.f93) (p := 4) rfl _ _ (w.heap.size + 1 + 1) 62 _ (0, 0) _ rfl (KR6.out.put7 _ _ _ _ _ _ _) Try.underlying62 rfl sizeD8
          · have hmR : ∀ v0 v1 v2 v3 v4 v5 v6, Mods (fun k => k = w.heap.size + 1 + 1) w6 (put7 w6 (w.heap.size + 1 + 1) v0 v1 v2 v3 v4 v5 v6) := fun v0 v1 v2 v3 v4 v5 v6 => Mods.put7 _ _ _ _ _ _ _ _ _ _ rfl
            refine Gave8.of HD.out (Dr.happen_coming X e) (Dr.happen_happened X e) ((Hr6.out.mods (hmR _ _ _ _ _ _ _) ?_).mono ?_) ((Hc6.out.mods (hmR _ _ _ _ _ _ _) ?_).mono ?_) Hcc.out (own_base (own_mods Hown6.out (hmR _ _ _ _ _ _ _) ?_)) ?_ (HB6.out.trans ((hmR _ _ _ _ _ _ _).below HB6.out.size (fun k e => by omega))) (by rw [show (X.happened ++ [e]).length = X.happened.length + 1 by simp])
            · rintro k (hk | hk) _ e
              · have := hk.2; omega
              · have := Hs4.out; omega
            · rintro k (hk | hk)
              · exact .inl hk.1
              · right; have := Hs4.out; omega
            · rintro k hk _ e
              have := hk.2; omega
            · intro k hk
              exact .inl hk.1
            · intro g hg e
              have := (Hown6.out.lt g hg).1; omega
            · intro g hg
              right
              have := (Hown6.out.lt g (by rw [own_blkOf]; exact hg)).1; omega
        · have q1 : (e.kind == 1) = false := beq_eq_false_iff_ne.2 hk1
          have q2 : (e.kind == 2) = false := beq_eq_false_iff_ne.2 hk2
          have q3 : (e.kind == 3) = false := beq_eq_false_iff_ne.2 hk3
          have q4 : (e.kind == 4) = false := beq_eq_false_iff_ne.2 hk4
          have HD := hide (show (X.happen e).D = X.D by unfold Dr.happen; rw [if_neg hk1, if_neg hk2, if_neg hk3, if_neg hk4]; rfl)
          have Hcc := hide H34h.out.comc
          have Hr6 := hide (H34h.out.ref.mono (G' := fun k => (G k ∧ k < w.heap.size) ∨ w4.heap.size ≤ k) (fun k hk => .inl hk))
          have Hc6 := hide H34h.out.com
          have Hown6 := Hown4
          have KR6 := KR4h
          have HB6 := HB4h
          clear hk1 hk2 hk3 hk4 Her H34h
          go_wp2_with fail
          refine bodyPost_ret (v := .agg #[.slice A (X.D).zs.length c, .int .i64 (X.D).size, .int .i64 (X.D).op, .int .i64 ((X.D).n : Int), .bool (X.D).down, .slice Ac X.coming.length cc, .slice B2 (X.happened.length + 1) c2]) ?_ rfl ?_
          · exact results_cell_row (fn := Try.f93) (p := 4) rfl _ _ (w.heap.size + 1 + 1) 62 _ (0, 0) _ rfl (KR6.out.put7 _ _ _ _ _ _ _) Try.underlying62 rfl sizeD8
          · have hmR : ∀ v0 v1 v2 v3 v4 v5 v6, Mods (fun k => k = w.heap.size + 1 + 1) w4 (put7 w4 (w.heap.size + 1 + 1) v0 v1 v2 v3 v4 v5 v6) := fun v0 v1 v2 v3 v4 v5 v6 => Mods.put7 _ _ _ _ _ _ _ _ _ _ rfl
            refine Gave8.of HD.out (Dr.happen_coming X e) (Dr.happen_happened X e) ((Hr6.out.mods (hmR _ _ _ _ _ _ _) ?_).mono ?_) ((Hc6.out.mods (hmR _ _ _ _ _ _ _) ?_).mono ?_) Hcc.out (own_base (own_mods Hown6.out (hmR _ _ _ _ _ _ _) ?_)) ?_ (HB6.out.trans ((hmR _ _ _ _ _ _ _).below HB6.out.size (fun k e => by omega))) (by rw [show (X.happened ++ [e]).length = X.happened.length + 1 by simp])
            · rintro k (hk | hk) _ e
              · have := hk.2; omega
              · have := Hs4.out; omega
            · rintro k (hk | hk)
              · exact .inl hk.1
              · right; have := Hs4.out; omega
            · rintro k hk _ e
              have := hk.2; omega
            · intro k hk
              exact .inl hk.1
            · intro g hg e
              have := (Hown6.out.lt g hg).1; omega
            · intro g hg
              right
              have := (Hown6.out.lt g (by rw [own_blkOf]; exact hg)).1; omega
end
end R8
end Go.Proofs.Ytdinbhanekpjoaa
