/-
  A drive's small methods: Device, forget, Spoilt; an event's Right.
-/
import Derived.Test.YtdinbhanekpjoaaDr8
import Derived.Deep.QuietTactic
import Derived.BigQuiet
namespace Go.Proofs.Ytdinbhanekpjoaa
open Go.RowKit
theorem Marks.forget_none (M : Marks) (z frm : Int) : M.forget frm z frm = M := by
  funext a b
  simp only [Marks.forget]
  rw [if_neg (by omega)]
theorem Marks.forget_succ (M : Marks) (z frm k : Int) (hk : 0 ≤ k) : (M.forget (frm + k) z frm).upd z (frm + k) (Sec.zero, 0) = M.forget (frm + k + 1) z frm := by
  funext a b
  simp only [Marks.forget, Marks.upd]
  by_cases h : a = z ∧ b = frm + k
  · rw [if_pos h, if_pos (by omega)]
  · rw [if_neg h]
    by_cases h2 : a = z ∧ frm ≤ b ∧ b < frm + k
    · rw [if_pos h2, if_pos (by omega)]
    · rw [if_neg h2, if_neg (by omega)]
theorem Marks.forget_end (M : Marks) (z frm k size : Int) (h1 : k = 0 ∨ frm + k ≤ size) (h2 : ¬ frm + k < size) : M.forget (frm + k) z frm = M.forget size z frm := by
  rcases h1 with rfl | h1
  · rw [Int.add_zero, Marks.forget_none]
    funext a b
    simp only [Marks.forget]
    rw [if_neg (by omega)]
  · rw [show frm + k = size by omega]
namespace DV
section
variable {w : World} {q d : Nat} {X : Dr} {F FD : Nat → Prop} {A : Option Addr} {c : Nat} {bs : List Nat} {Fs : Nat → Nat → Prop} {mb n : Nat} {Ac : Option Addr} {cc : Nat} {Ah : Option Addr} {ch : Nat}
set_option maxHeartbeats 400000 in
theorem device_any (h : DrvIs w q d X F FD A c bs Fs mb n Ac cc Ah ch) : Calls Try.prog 36 #[.pointer (some ⟨q, 0, none⟩)] w fun e w' => e = .returned (.pointer (some ⟨d, 0, none⟩)) ∧ w = w' := by
  obtain ⟨c0, -⟩ := h.cells
  clear h
  go_enter Try.func36, Try.ntmps36
  go_wp2_with fail
  go_ret
  exact ⟨rfl, rfl⟩
set_option maxHeartbeats 1000000 in
theorem forget_any (h : DrvIs w q d X F FD A c bs Fs mb n Ac cc Ah ch) (z frm : Int) (hz : fits z) (hf0 : 0 ≤ frm) (hf1 : frm ≤ 65536) (hsz : X.D.size ≤ 64) :
    Calls Try.prog 94 #[.pointer (some ⟨q, 0, none⟩), .int .i64 z, .int .i64 frm] w fun e w' => e = .returned (.tuple #[]) ∧ DrvDid w w' q d { X with marks := X.marks.forget X.D.size z frm } F := by
  have h' := hide h
  have Hf := hide (And.intro hf0 (And.intro hf1 hsz))
  have Hz := hide hz
  clear h hf0 hf1 hsz hz
  go_enter Try.func94, Try.ntmps94
  go_wp2_with fail
  go_loopw [6] (fun i wr => ∃ k : Nat, i = .int .i64 (frm + k) ∧ ((k : Int) = 0 ∨ frm + (k : Int) ≤ X.D.size) ∧ MapIs wr mb n (X.marks.forget (frm + k) z frm) ∧ Mods (fun b => b = mb) w wr) (fun i _ => (X.D.size - intOf i).toNat)
  case atStart => exact ⟨0, by simp, .inl rfl, by rw [Int.natCast_zero, Int.add_zero, Marks.forget_none]; exact h'.out.map, Mods.refl _ _⟩
  case round =>
    obtain ⟨k, rfl, hk, hM, hm⟩ := hrel
    have hd := h'.out.dev.mods hm (fun j hj e => h'.out.noD.2.1 (e ▸ hj))
    have Hs := hide (DM.size_any hd)
    have kb := h'.out.blk.mods hm h'.out.noD.2.2
    have c0 : wr.cell? ⟨q, 0, none⟩ = some (.pointer (some ⟨d, 0, none⟩)) := kb.cell 0
    have c3 : wr.cell? ⟨q, 3, none⟩ = some (.map (some mb)) := kb.cell 3
    have HM := hide hM
    have Hm := hide hm
    have Hk := hide hk
    have hff := Hf.out
    have ew : IntKind.i64.wrap (frm + k + 1) = frm + k + 1 := IntWalk.i64_in _ (by omega)
    clear hd kb hM hm hk hff
    by_cases hlt : frm + (k : Int) < X.D.size
    · have dl : decide (frm + (k : Int) < X.D.size) = true := decide_eq_true hlt
      have Hlt := hide hlt
      have Hfo : Hid (fits (frm + k)) := hide (fits_of (by have := Hf.out; omega) (by have := Hf.out; omega))
      clear hlt
      go_wp2_with fail
      refine Hs.out.mono ?_
      rintro e w' ⟨rfl, rfl⟩
      go_wp2_with (at_delete; refine wpList_delete_mark rfl (.tmp 20) (.tmp 23) rfl rfl HM.out rfl Hz.out Hfo.out ?_; intro w2 hM2 hm2; have HM2 := hide hM2; have Hm2 := hide hm2; clear hM2 hm2)
      go_roundw
      case rel =>
        refine ⟨k + 1, by rw [Int.natCast_add, Int.add_assoc]; rfl, .inr (by have := Hlt.out; omega), ?_, Hm.out.trans Hm2.out (fun _ _ h => h)⟩
        have := HM2.out
        rw [Marks.forget_succ _ _ _ _ (by omega)] at this
        rwa [show frm + (k : Int) + 1 = frm + ((k + 1 : Nat) : Int) by omega] at this
      case measure => have := Hlt.out; simp [intOf]; omega
    · have dl : decide (frm + (k : Int) < X.D.size) = false := decide_eq_false hlt
      have Hlt := hide hlt
      clear hlt
      go_wp2_with fail
      refine Hs.out.mono ?_
      rintro e w' ⟨rfl, rfl⟩
      go_wp2_with fail
      go_end0
      refine ⟨rfl, h'.out.mapStep ?_ h'.out.cnt Hm.out⟩
      have := HM.out
      rwa [Marks.forget_end _ _ _ _ X.D.size Hk.out (by have := Hlt.out; omega)] at this
end
end DV
end Go.Proofs.Ytdinbhanekpjoaa

/-
  How a mark and an event of the document's are built out of their parts.
-/
namespace Go.Proofs.Ytdinbhanekpjoaa
open Go.RowKit
theorem fold_at (l : List Value) (base : Array Value) (o : Nat) (h : o + l.length ≤ base.size) : l.zipIdx.foldl (fun cs p => cs.setIfInBounds (o + p.2) p.1) base = (base.toList.take o ++ l ++ base.toList.drop (o + l.length)).toArray := by
  have key : ∀ (l : List Value) (k : Nat) (base : Array Value), o + k + l.length ≤ base.size → (l.zipIdx k).foldl (fun cs p => cs.setIfInBounds (o + p.2) p.1) base = (base.toList.take (o + k) ++ l ++ base.toList.drop (o + k + l.length)).toArray := by
    intro l
    induction l with
    | nil => intro k base h; simp
    | cons v l ih =>
      intro k base h
      simp only [List.length_cons] at h
      rw [List.zipIdx_cons, List.foldl_cons, ih (k + 1) _ (by simp; omega)]
      congr 1
      have hk : o + k < base.toList.length := by simp; omega
      simp only [Array.toList_setIfInBounds, List.length_cons]
      rw [show o + (k + 1) = o + k + 1 by omega, List.take_succ_eq_append_getElem (by simpa using hk), List.take_set_of_le (Nat.le_refl _), List.drop_set_of_lt (by omega)]
      simp
      congr 1
      omega
  simpa using key l 0 base (by omega)
theorem zc_mark : Try.zeroCells124.toList.drop 64 = [.int .i64 0] := by kernel_rfl
theorem zc_mark_size : Try.zeroCells124.size = 65 := by kernel_rfl
theorem zc_e8 : Try.zeroCells116.toList.take 4 = [.int .i64 0, .int .i64 0, .int .i64 0, .int .i64 0] := by kernel_rfl
theorem zc_e8_size : Try.zeroCells116.size = 68 := by kernel_rfl
theorem e8_base (a b c d : Int) : ∀ z : Array Value, z.size = 68 → ((((z.setIfInBounds 0 (.int .i64 a)).setIfInBounds 1 (.int .i64 b)).setIfInBounds 2 (.int .i64 c)).setIfInBounds 3 (.int .i64 d)).toList.take 4 = [.int .i64 a, .int .i64 b, .int .i64 c, .int .i64 d] := by
  intro z hz
  obtain ⟨l⟩ := z
  match l, hz with
  | x0 :: x1 :: x2 :: x3 :: r, _ => simp
set_option maxRecDepth 100000 in
theorem run_build_mark (s : Sec) (c : Int) (w : World) : (Instr.build 124 #[(0, .agg s.cs.toArray), (1, .int .i64 c)]).run Try.prog w = .ok (markV (s, c)) w := by
  have hl := s.len
  have hf := fold_at s.cs Try.zeroCells124 0 (by rw [zc_mark_size, hl]; omega)
  simp only [Nat.zero_add, hl, zc_mark, List.take_zero, List.nil_append] at hf
  unfold Instr.build
  go_simp
  rfl
set_option maxRecDepth 100000 in
theorem run_build_e8 (e : EvV) (w : World) : (Instr.build 116 #[(0, .int .i64 e.at_), (1, .int .i64 e.kind), (2, .int .i64 e.zone), (3, .int .i64 e.off), (4, .agg e.p.cs.toArray)]).run Try.prog w = .ok e.agg w := by
  have hl := e.p.len
  unfold Instr.build
  go_simp
  rw [fold_at _ _ 4 (by simp only [Array.size_setIfInBounds, zc_e8_size, hl]; omega), e8_base _ _ _ _ _ zc_e8_size, List.drop_of_length_le (by simp only [Array.length_toList, Array.size_setIfInBounds, zc_e8_size, hl]; omega), List.append_nil]
  rfl
end Go.Proofs.Ytdinbhanekpjoaa

/-
  A drive's spoil: a pattern is put into a sector, and marked.
-/
namespace Go.Proofs.Ytdinbhanekpjoaa
open Go.RowKit
theorem sizeMark (m : Sec × Int) : (Try.prog.info? 124).map (·.size) = some (m.1.cs ++ [Value.int .i64 m.2]).toArray.size := by
  have h : (Try.prog.info? 124).map (·.size) = some 65 := by kernel_rfl
  rw [h]; simp [m.1.len]
theorem mark_all (m : Sec × Int) : (m.1.cs ++ [Value.int .i64 m.2]).toArray.all (·.oneCell') = true := by
  rw [Array.all_eq_true]
  intro i hi
  have : (m.1.cs ++ [Value.int .i64 m.2]).toArray[i] ∈ m.1.cs ++ [Value.int .i64 m.2] := by simp only [List.getElem_toArray]; exact List.getElem_mem _
  rcases List.mem_append.1 this with h | h
  · exact m.1.one _ h
  · rw [List.mem_singleton.1 h]; rfl
theorem mark_cells {w : World} {g : Nat} {m : Sec × Int} (h : Blk w g 124 (m.1.cs ++ [Value.int .i64 m.2]).toArray) : w.rangeAt g 0 m.1.cs ∧ w.cell? ⟨g, 64, none⟩ = some (.int .i64 m.2) := by
  have hl := m.1.len
  refine ⟨fun j v hv => ?_, ?_⟩
  · rw [Nat.zero_add, h.cell j]
    have hj : j < 64 := by rw [← hl]; exact (List.getElem?_eq_some_iff.1 hv).1
    simp only [List.getElem?_toArray]
    rw [List.getElem?_append_left (by omega)]
    exact hv
  · rw [h.cell 64]
    simp only [List.getElem?_toArray]
    rw [List.getElem?_append_right (by omega), hl]
    rfl
theorem exec_build_mark {w : World} {a : Act} {o : Oper} (x y : Operand) {s : Sec} {c : Int} (ho : o.op = .build 124 #[(0, x), (1, y)]) (hx : a.eval x = .agg s.cs.toArray) (hy : a.eval y = .int .i64 c) : (execOp a.eval o).run Try.prog w = .ok (.value (markV (s, c))) w := by
  unfold execOp
  simp only [ho, List.map_toArray, List.map_cons, List.map_nil, hx, hy, Sem.run_bind, run_build_mark s c w, Result.andThen_ok, Sem.run_pure]
namespace ItS8
theorem range_below {n b o : Nat} {X Y : World} {cs : List Value} (h : Below n X Y) (hb : b < n) (hr : X.rangeAt b o cs) : Y.rangeAt b o cs := fun i v hv => (h.cell (p := ⟨b, o + i, none⟩) hb).trans (hr i v hv)
theorem range_mods {S : Nat → Prop} {b o : Nat} {X Y : World} {cs : List Value} (h : Mods S X Y) (hb : b < X.heap.size) (hn : ¬ S b) (hr : X.rangeAt b o cs) : Y.rangeAt b o cs := fun i v hv => (h.cell (p := ⟨b, o + i, none⟩) hb hn).trans (hr i v hv)
end ItS8
namespace DV
section
variable {w : World} {q d : Nat} {X : Dr} {F FD : Nat → Prop} {A : Option Addr} {c : Nat} {bs : List Nat} {Fs : Nat → Nat → Prop} {mb n : Nat} {Ac : Option Addr} {cc : Nat} {Ah : Option Addr} {ch : Nat}
set_option maxRecDepth 100000 in
set_option maxHeartbeats 2000000 in
theorem spoil_any (h : DrvIs w q d X F FD A c bs Fs mb n Ac cc Ah ch) (e : EvV) (hL : ∀ x ∈ X.D.zs, x.L.length < 65536) (hz : fits e.zone) (ho : fits e.off) (hn : n + 1 ≤ X.happened.length) (hn2 : n < 65536) (hc : ∀ z o, (X.marks z o).2 ≤ 65536 ∧ 0 ≤ (X.marks z o).2) :
    Calls Try.prog 104 #[.pointer (some ⟨q, 0, none⟩), e.agg] w fun en w' => en = .returned (.tuple #[]) ∧ DrvDid w w' q d (X.spoil e) F := by
  unfold EvV.agg
  have hb1 : Below w.heap.size w (w.alloc (.cells e.cells.toArray 66)) := (Below.refl _ w).alloc (Nat.le_refl _) _
  have ke := Blk.new w 66 e.cells.toArray
  have H1 := hide (h.below hb1)
  have Hb1 := hide hb1
  have Hlt := hide h.lt
  have Hz := hide (And.intro hz (And.intro ho (And.intro hn (And.intro hn2 hc))))
  have HL := hide hL
  clear h hz ho hn hn2 hc hL
  go_enter Try.func104, Try.ntmps104
  go_upto_region 1 with (fail)
  generalize w.alloc (.cells e.cells.toArray 66) = w1 at hb1 ke H1 Hb1 ⊢
  obtain ⟨c0, c1, c2, c3, f1, f2⟩ := H1.out.cells
  obtain ⟨e0, e1, e2, e3, er⟩ := EvV.blk4 ke
  have hsp := DM.spoil_any H1.out.dev.drew HL.out e.zone e.off e.p
  unfold Sec.agg at hsp
  have Hsp := hide hsp
  have Ke := hide ke
  have Her := hide er
  have Hq := hide (H1.out.lt q H1.out.inF.1)
  clear ke hsp er hb1 f1 f2
  refine Reg.wp_region_reads (fun w' => w'.cell? ⟨q, 0, none⟩ = some (.pointer (some ⟨d, 0, none⟩)) ∧ w'.cell? ⟨w.heap.size, 2, none⟩ = some (.int .i64 e.zone) ∧ w'.cell? ⟨w.heap.size, 3, none⟩ = some (.int .i64 e.off) ∧ w'.rangeAt w.heap.size 4 e.p.cs) 10 10 (by decide +kernel) (by decide +kernel) ⟨c0, e2, e3, Her.out⟩ ?_
  simp only [List.take_succ_cons, List.take_zero, List.drop_succ_cons, List.drop_zero]
  iterate 9
    apply Reg.wpReads_step rfl
    · intro w' hS
      obtain ⟨x0, x1, x2, x3⟩ := hS
      go_simp
      first | done | rfl
    intro K hK
    go_simp
    refine hK _ ?_
    clear hK K
  refine Reg.wpReads_load rfl 34 (.tmp 14) rfl w.heap.size 4 rfl e.p.cs _ (fun w' h => h.2.2.2) Try.underlying34 rfl (ZD.sizeSec _) (fun K hK => ?_)
  go_simp
  refine hK _ ?_
  clear hK K
  refine Reg.wpReads_nil ?_
  refine Reg.wpTail_list _ _ _ _ (by omega) ?_
  by_cases hc0 : (X.D.spoil e.zone e.off e.p).2 = 0
  · have hsp := Hsp.out
    rw [hc0] at hsp
    have Hsp2 := hide hsp
    have Hc0 := hide hc0
    clear hsp Hsp hc0
    go_wp2_with fail
    refine Hsp2.out.mono ?_
    rintro en w2 ⟨rfl, hd⟩
    have ke2 := DDid.box (show Blk w1.drew w.heap.size 66 _ from Ke.out) hd (fun hf => by have := Hlt.out _ (H1.out.inF.2.2.1 _ hf); omega)
    obtain ⟨F2, FD2, Fs2, h2, hm2, hF2⟩ := H1.out.drew.devTurn hd
    have Hfin := hide (show X.spoil e = { X with D := (X.D.spoil e.zone e.off e.p).1, marks := X.marks.upd e.zone e.off ((X.marks e.zone e.off).1.xor e.p, (X.marks e.zone e.off).2 + 1) } by unfold Dr.spoil; rw [if_pos Hc0.out])
    obtain ⟨g0, g1, g2, g3, gr⟩ := EvV.blk4 ke2
    have H2 := hide h2
    have Hm2 := hide hm2
    have HF2 := hide hF2
    have Ke2 := hide ke2
    have Hgr := hide gr
    clear hd h2 hm2 hF2 ke2 gr Hsp2 c0 c1 c2 c3 e0 e1 e2 e3
    go_wp2_with fail
    refine NoPanic.normal ?_
    go_upto_region 3 with (fail)
    have hb3 : Below w2.heap.size w2 (w2.alloc (.cells #[.int .i64 e.zone, .int .i64 e.off] 126)) := (Below.refl _ w2).alloc (Nat.le_refl _) _
    have kp := Blk.new w2 126 #[.int .i64 e.zone, .int .i64 e.off]
    have H3 := hide (H2.out.below hb3)
    have ke3 := (hb3.block _ Ke2.out.lt).trans Ke2.out
    have Hw2 : Hid (w.heap.size < w2.heap.size) := hide Ke2.out.lt
    generalize w2.alloc (.cells #[.int .i64 e.zone, .int .i64 e.off] 126) = w3 at hb3 kp H3 ke3 ⊢
    obtain ⟨gp, hgp⟩ : ∃ g, g = w2.heap.size := ⟨_, rfl⟩
    rw [← hgp] at kp ⊢
    have Hb3 := hide hb3
    have Kp := hide kp
    have Ke3 := hide (show Blk w3 w.heap.size 66 e.cells.toArray from ke3)
    have Hgp := hide hgp
    have p0 : w3.cell? ⟨gp, 0, none⟩ = some (.int .i64 e.zone) := kp.cell 0
    have p1 : w3.cell? ⟨gp, 1, none⟩ = some (.int .i64 e.off) := kp.cell 1
    have d3 : w3.cell? ⟨q, 3, none⟩ = some (.map (some mb)) := H3.out.cells.2.2.2.1
    have hms := H3.out.map
    have hmd : MapIs (w3.drew.alloc (.cells Try.zeroCells124 124)) mb n X.marks := (H3.out.drew.below ((Below.refl _ w3.drew).alloc (Nat.le_refl _) _)).map
    have Hmd := hide hmd
    have HZ := hide (Blk.new w3.drew 124 Try.zeroCells124)
    clear hb3 kp ke3 hgp g0 g1 g2 g3 hmd
    refine Reg.wp_region_reads (fun w' => w'.cell? ⟨q, 3, none⟩ = some (.map (some mb)) ∧ w'.cell? ⟨gp, 0, none⟩ = some (.int .i64 e.zone) ∧ w'.cell? ⟨gp, 1, none⟩ = some (.int .i64 e.off) ∧ MapIs w' mb n X.marks) 6 7 (by decide +kernel) (by decide +kernel) ⟨d3, p0, p1, hms.mods ((Mods.refl (fun _ => False) w3).drew) (fun h => h)⟩ ?_
    simp only [List.take_succ_cons, List.take_zero, List.drop_succ_cons, List.drop_zero]
    iterate 5
      apply Reg.wpReads_step rfl
      · intro w' hS
        obtain ⟨x0, x1, x2, x3⟩ := hS
        go_simp
        first | done | rfl
      intro K hK
      go_simp
      refine hK _ ?_
      clear hK K
    refine Reg.wpReads_step (v := markV (X.marks e.zone e.off)) rfl (fun w' hS => exec_lookup_mark (.tmp 26) (.tmp 27) rfl rfl hS.2.2.2 rfl Hz.out.1 Hz.out.2.1) (fun K hK => ?_)
    unfold markV
    go_simp
    refine hK _ ?_
    clear hK K
    refine Reg.wpReads_nil ?_
    refine Reg.wpTail_step rfl (fun K hK => ?_)
    go_simp
    refine hK _ _ (fun _ => ⟨?_, ?_, ?_, Hmd.out⟩) ?_
    · exact (World.cell?_alloc_lt w3.drew _ ⟨q, 3, none⟩ (show q < w3.heap.size from H3.out.blk.lt)).trans d3
    · exact (World.cell?_alloc_lt w3.drew _ ⟨gp, 0, none⟩ (show gp < w3.heap.size from Kp.out.lt)).trans p0
    · exact (World.cell?_alloc_lt w3.drew _ ⟨gp, 1, none⟩ (show gp < w3.heap.size from Kp.out.lt)).trans p1
    clear hK K hms
    refine Reg.wpTail_list _ _ _ _ (by omega) ?_
    have hks : Blk ((w3.drew.alloc (.cells Try.zeroCells124 124)).setRow w3.heap.size ((X.marks e.zone e.off).1.cs ++ [Value.int .i64 (X.marks e.zone e.off).2]).toArray) w3.heap.size 124 ((X.marks e.zone e.off).1.cs ++ [Value.int .i64 (X.marks e.zone e.off).2]).toArray := HZ.out.setRow ((X.marks e.zone e.off).1.cs ++ [Value.int .i64 (X.marks e.zone e.off).2]).toArray
    have hb4 : Below w3.heap.size w3 ((w3.drew.alloc (.cells Try.zeroCells124 124)).setRow w3.heap.size ((X.marks e.zone e.off).1.cs ++ [Value.int .i64 (X.marks e.zone e.off).2]).toArray) := below_setRow ((Below.refl _ w3).drew.alloc (Nat.le_refl _) _) (Nat.le_refl _) _
    go_wp2_with ((with_reducible refine wpList_store_row ?g2 124 (.tmp 5) (.tmp 28) ?o2 w3.heap.size ((X.marks e.zone e.off).1.cs ++ [Value.int .i64 (X.marks e.zone e.off).2]).toArray ?x2 ?y2 124 Try.zeroCells124 ?k2 ?s2 ?l2 ?a2 ?_); (case g2 => exact rfl); (case o2 => exact rfl); (case x2 => exact rfl); (case y2 => exact rfl); (case k2 => exact HZ.out); (case s2 => exact sizeMark _); (case l2 => rw [zc_mark_size]; simp [Sec.len]); (case a2 => exact mark_all _))
    refine NoPanic.normal ?_
    go_upto_region 4 with (fail)
    generalize hW4 : World.setRow _ _ _ = w4
    have hW4' : (w3.drew.alloc (.cells Try.zeroCells124 124)).setRow w3.heap.size ((X.marks e.zone e.off).1.cs ++ [Value.int .i64 (X.marks e.zone e.off).2]).toArray = w4 := hW4
    rw [hW4'] at hks hb4
    clear hW4 hW4' HZ Hmd p0 p1 d3
    obtain ⟨gm, hgm⟩ : ∃ g, g = w3.heap.size := ⟨_, rfl⟩
    have Hgm : Hid (gm = w3.heap.size) := hide hgm
    rw [← hgm] at hks ⊢
    clear hgm
    obtain ⟨ge, hge⟩ : ∃ g, g = w.heap.size := ⟨_, rfl⟩
    have Hge : Hid (ge = w.heap.size) := hide hge
    have hke3 : Blk w3 ge 66 e.cells.toArray := hge ▸ Ke3.out
    rw [← hge]
    clear hge
    have H4 := H3.out.below hb4
    have hp4 : Blk w4 gp 126 #[.int .i64 e.zone, .int .i64 e.off] := (hb4.block _ Kp.out.lt).trans Kp.out
    have he4 : Blk w4 ge 66 e.cells.toArray := (hb4.block _ hke3.lt).trans hke3
    have d3 : w4.drew.cell? ⟨q, 3, none⟩ = some (.map (some mb)) := H4.cells.2.2.2.1
    have p0 : w4.drew.cell? ⟨gp, 0, none⟩ = some (.int .i64 e.zone) := hp4.cell 0
    have p1 : w4.drew.cell? ⟨gp, 1, none⟩ = some (.int .i64 e.off) := hp4.cell 1
    obtain ⟨m0, m1⟩ := mark_cells (show Blk w4.drew gm 124 _ from hks)
    have er : w4.drew.rangeAt ge 4 e.p.cs := (EvV.blk4 (show Blk w4.drew ge 66 _ from he4)).2.2.2.2
    have hcn := Hz.out.2.2.2.2 e.zone e.off
    have ew : IntKind.i64.wrap ((X.marks e.zone e.off).2 + 1) = (X.marks e.zone e.off).2 + 1 := IntWalk.i64_in _ (by omega)
    have Hlq : Hid (q < w4.heap.size) := hide H4.blk.lt
    have Hlp : Hid (gp < w4.heap.size) := hide hp4.lt
    have Hlm : Hid (gm < w4.heap.size) := hide hks.lt
    have Hle : Hid (ge < w4.heap.size) := hide he4.lt
    have H4h := hide H4
    have Hb4 := hide hb4
    have Hxor := hide (fun w => ZD.xor_any (X.marks e.zone e.off).1 e.p w)
    unfold Sec.agg at Hxor
    have Hne : Hid (mb ≠ gp ∧ mb ≠ gm ∧ mb ≠ ge) := hide (by
      have h1 := Hlt.out mb H1.out.inF.2.1
      have h2 := Hw2.out
      have h3 := Hgp.out
      have h4 := Hgm.out
      have h5 := Hge.out
      have h6 := Hb3.out.size
      omega)
    clear H4 hp4 he4 hke3 hks hb4 hcn
    refine wp_region_held_drew (S := fun w' => w'.cell? ⟨q, 3, none⟩ = some (.map (some mb)) ∧ w'.cell? ⟨gp, 0, none⟩ = some (.int .i64 e.zone) ∧ w'.cell? ⟨gp, 1, none⟩ = some (.int .i64 e.off) ∧ w'.rangeAt gm 0 (X.marks e.zone e.off).1.cs ∧ w'.cell? ⟨gm, 64, none⟩ = some (.int .i64 (X.marks e.zone e.off).2) ∧ w'.rangeAt ge 4 e.p.cs) (by kernel_rfl) ⟨d3, p0, p1, m0, m1, er⟩ (fun hHeld => ?_)
    refine wpAnyH_take (i := 0) (oi := ⟨_, _, _, _, _, _⟩) (v := ?_) rfl (by kernel_rfl) (by kernel_rfl) (by kernel_rfl) (fun _ _ _ h => h) (Or.inl ⟨by rfl, ?_⟩) hHeld ?_
    rotate_left
    · intro w' hS
      obtain ⟨x0, x1, x2, x3, x4, x5⟩ := hS
      go_simp
      first | done | with_reducible rfl
    try simp only [Act.put, List.setIfInBounds_toArray, List.set_cons_zero, List.set_cons_succ]
    refine wpAnyH_take (i := 1) (oi := ⟨_, _, _, _, _, _⟩) (v := ?_) rfl (by kernel_rfl) (by kernel_rfl) (by kernel_rfl) (fun _ _ _ h => h) (Or.inl ⟨by rfl, ?_⟩) hHeld ?_
    rotate_left
    · intro w' hS
      obtain ⟨x0, x1, x2, x3, x4, x5⟩ := hS
      go_simp
      first | done | with_reducible rfl
    try simp only [Act.put, List.setIfInBounds_toArray, List.set_cons_zero, List.set_cons_succ]
    refine wpAnyH_take (i := 2) (oi := ⟨_, _, _, _, _, _⟩) (v := ?_) rfl (by kernel_rfl) (by kernel_rfl) (by kernel_rfl) (fun _ _ _ h => h) (Or.inl ⟨by rfl, ?_⟩) hHeld ?_
    rotate_left
    · intro w' hS
      obtain ⟨x0, x1, x2, x3, x4, x5⟩ := hS
      go_simp
      first | done | with_reducible rfl
    try simp only [Act.put, List.setIfInBounds_toArray, List.set_cons_zero, List.set_cons_succ]
    refine wpAnyH_take (i := 3) (oi := ⟨_, _, _, _, _, _⟩) (v := ?_) rfl (by kernel_rfl) (by kernel_rfl) (by kernel_rfl) (fun _ _ _ h => h) (Or.inl ⟨by rfl, ?_⟩) hHeld ?_
    rotate_left
    · intro w' hS
      obtain ⟨x0, x1, x2, x3, x4, x5⟩ := hS
      go_simp
      first | done | with_reducible rfl
    try simp only [Act.put, List.setIfInBounds_toArray, List.set_cons_zero, List.set_cons_succ]
    refine wpAnyH_take (i := 4) (oi := ⟨_, _, _, _, _, _⟩) (v := ?_) rfl (by kernel_rfl) (by kernel_rfl) (by kernel_rfl) (fun _ _ _ h => h) (Or.inl ⟨by rfl, ?_⟩) hHeld ?_
    rotate_left
    · intro w' hS
      obtain ⟨x0, x1, x2, x3, x4, x5⟩ := hS
      go_simp
      first | done | with_reducible rfl
    try simp only [Act.put, List.setIfInBounds_toArray, List.set_cons_zero, List.set_cons_succ]
    refine wpAnyH_take (i := 5) (oi := ⟨_, _, _, _, _, _⟩) (v := ?_) rfl (by kernel_rfl) (by kernel_rfl) (by kernel_rfl) (fun _ _ _ h => h) (Or.inl ⟨by rfl, ?_⟩) hHeld ?_
    rotate_left
    · intro w' hS
      obtain ⟨x0, x1, x2, x3, x4, x5⟩ := hS
      go_simp
      first | done | with_reducible rfl
    try simp only [Act.put, List.setIfInBounds_toArray, List.set_cons_zero, List.set_cons_succ]
    refine wpAnyH_take (i := 6) (oi := ⟨_, _, _, _, _, _⟩) (v := .agg (X.marks e.zone e.off).1.cs.toArray) rfl (by kernel_rfl) (by kernel_rfl) (by kernel_rfl) (fun _ _ _ h => h) (yieldsIf_load_mid (by rfl) 34 (.tmp 34) rfl gm (0) rfl (X.marks e.zone e.off).1.cs _ (fun w' hS => hS.2.2.2.1) Try.underlying34 rfl (ZD.sizeSec _)) hHeld ?_
    try simp only [Act.put, List.setIfInBounds_toArray, List.set_cons_zero, List.set_cons_succ]
    refine wpAnyH_take (i := 7) (oi := ⟨_, _, _, _, _, _⟩) (v := ?_) rfl (by kernel_rfl) (by kernel_rfl) (by kernel_rfl) (fun _ _ _ h => h) (Or.inl ⟨by rfl, ?_⟩) hHeld ?_
    rotate_left
    · intro w' hS
      obtain ⟨x0, x1, x2, x3, x4, x5⟩ := hS
      go_simp
      first | done | with_reducible rfl
    try simp only [Act.put, List.setIfInBounds_toArray, List.set_cons_zero, List.set_cons_succ]
    refine wpAnyH_take (i := 8) (oi := ⟨_, _, _, _, _, _⟩) (v := .agg e.p.cs.toArray) rfl (by kernel_rfl) (by kernel_rfl) (by kernel_rfl) (fun _ _ _ h => h) (yieldsIf_load_mid (by rfl) 34 (.tmp 36) rfl ge (4) rfl e.p.cs _ (fun w' hS => hS.2.2.2.2.2) Try.underlying34 rfl (ZD.sizeSec _)) hHeld ?_
    try simp only [Act.put, List.setIfInBounds_toArray, List.set_cons_zero, List.set_cons_succ]
    refine wpAnyH_take (i := 10) (oi := ⟨_, _, _, _, _, _⟩) (v := ?_) rfl (by kernel_rfl) (by kernel_rfl) (by kernel_rfl) (fun _ _ _ h => h) (Or.inl ⟨by rfl, ?_⟩) hHeld ?_
    rotate_left
    · intro w' hS
      obtain ⟨x0, x1, x2, x3, x4, x5⟩ := hS
      go_simp
      first | done | with_reducible rfl
    try simp only [Act.put, List.setIfInBounds_toArray, List.set_cons_zero, List.set_cons_succ]
    refine wpAnyH_take (i := 11) (oi := ⟨_, _, _, _, _, _⟩) (v := ?_) rfl (by kernel_rfl) (by kernel_rfl) (by kernel_rfl) (fun _ _ _ h => h) (Or.inl ⟨by rfl, ?_⟩) hHeld ?_
    rotate_left
    · intro w' hS
      obtain ⟨x0, x1, x2, x3, x4, x5⟩ := hS
      go_simp
      first | done | with_reducible rfl
    try simp only [Act.put, List.setIfInBounds_toArray, List.set_cons_zero, List.set_cons_succ]
    refine wpAnyH_take (i := 12) (oi := ⟨_, _, _, _, _, _⟩) (v := ?_) rfl (by kernel_rfl) (by kernel_rfl) (by kernel_rfl) (fun _ _ _ h => h) (Or.inl ⟨by rfl, ?_⟩) hHeld ?_
    rotate_left
    · intro w' hS
      obtain ⟨x0, x1, x2, x3, x4, x5⟩ := hS
      go_simp
      first | done | with_reducible rfl
    try simp only [Act.put, List.setIfInBounds_toArray, List.set_cons_zero, List.set_cons_succ]
    refine wpAnyH_ready (rs := [9]) (by kernel_rfl) (by simp) ?_
    refine AllReadyH.cons rfl (fun K hK => ?_) AllReadyH.nil
    go_simp
    refine (Hxor.out _).mono ?_
    rintro en w5 ⟨rfl, hx⟩
    have d3' := (hx.cell (p := ⟨q, 3, none⟩) Hlq.out).trans d3
    have p0' := (hx.cell (p := ⟨gp, 0, none⟩) Hlp.out).trans p0
    have p1' := (hx.cell (p := ⟨gp, 1, none⟩) Hlp.out).trans p1
    have m0' := ItS8.range_below hx Hlm.out m0
    have m1' := (hx.cell (p := ⟨gm, 64, none⟩) Hlm.out).trans m1
    have er' := ItS8.range_below hx Hle.out er
    have H5 := hide (H4h.out.drew.below hx)
    have Hx := hide hx
    clear hx
    go_simp
    refine hK.out _ _ ⟨d3', p0', p1', m0', m1', er'⟩ (fun hHeld => ?_)
    clear hK K
    try simp only [Act.put, List.setIfInBounds_toArray, List.set_cons_zero, List.set_cons_succ]
    refine wpAnyH_take (i := 13) (oi := ⟨_, _, _, _, _, _⟩) (v := markV ((X.marks e.zone e.off).1.xor e.p, (X.marks e.zone e.off).2 + 1)) rfl (by kernel_rfl) (by kernel_rfl) (by kernel_rfl) (fun _ _ _ h => h) (Or.inl ⟨by rfl, fun w' hS => exec_build_mark (.tmp 38) (.tmp 41) rfl rfl rfl⟩) hHeld ?_
    try simp only [Act.put, List.setIfInBounds_toArray, List.set_cons_zero, List.set_cons_succ]
    refine wpAnyH_ready (rs := [14]) (by kernel_rfl) (by simp) ?_
    refine AllReadyH.cons rfl (fun K hK => ?_) AllReadyH.nil
    rw [if_pos (by rfl)]
    refine wp_update_mark (.tmp 32) (.tmp 33) (.tmp 42) rfl rfl H5.out.map (by have := Hz.out.2.2.2.1; unfold maxLen; omega) rfl ((X.marks e.zone e.off).1.xor e.p, (X.marks e.zone e.off).2 + 1) rfl Hz.out.1 Hz.out.2.1 (fun w6 hM hm6 => ?_)
    have hs5 := Hx.out.size
    refine hK.out _ _ ⟨(hm6.cell (p := ⟨q, 3, none⟩) (Nat.lt_of_lt_of_le Hlq.out hs5) (fun e => H5.out.noD.2.2 e)).trans d3', (hm6.cell (p := ⟨gp, 0, none⟩) (Nat.lt_of_lt_of_le Hlp.out hs5) (fun e => Hne.out.1 e.symm)).trans p0', (hm6.cell (p := ⟨gp, 1, none⟩) (Nat.lt_of_lt_of_le Hlp.out hs5) (fun e => Hne.out.1 e.symm)).trans p1', ItS8.range_mods hm6 (Nat.lt_of_lt_of_le Hlm.out hs5) (fun e => Hne.out.2.1 e.symm) m0', (hm6.cell (p := ⟨gm, 64, none⟩) (Nat.lt_of_lt_of_le Hlm.out hs5) (fun e => Hne.out.2.1 e.symm)).trans m1', ItS8.range_mods hm6 (Nat.lt_of_lt_of_le Hle.out hs5) (fun e => Hne.out.2.2 e.symm) er'⟩ (fun hHeld => ?_)
    clear hK K
    try simp only [Act.put, List.setIfInBounds_toArray]
    refine wpAnyH_done (by kernel_rfl) ?_ _
    go_wp2_with fail
    go_end0
    refine ⟨rfl, ?_⟩
    rw [Hfin.out]
    have hstep := H5.out.mapStep hM Hz.out.2.2.1 hm6
    have hb25 : Below w2.heap.size w2 w5 := (Hb3.out.trans (Hb4.out.mono Hb3.out.size)).trans (((Below.refl _ w4).drew.trans Hx.out).mono (Nat.le_trans Hb3.out.size Hb4.out.size))
    exact DrvDid.ahead (Hb1.out.trans ((Below.refl _ w1).drew.mono Hb1.out.size)) (DrvDid.join (Hm2.out.trans (Mods.of_below hb25 F) (fun _ _ h => h)) HF2.out hstep)
  · have Hfin := hide (show X.spoil e = { X with D := (X.D.spoil e.zone e.off e.p).1 } by unfold Dr.spoil; rw [if_neg hc0])
    have hc0 : ((X.D.spoil e.zone e.off e.p).2 == 0) = false := beq_eq_false_iff_ne.2 hc0
    generalize (X.D.spoil e.zone e.off e.p).2 = code at Hsp hc0
    have d0 : (code != 0) = true := by simp [bne, hc0]
    go_wp2_with fail
    refine Hsp.out.mono ?_
    rintro en w2 ⟨rfl, hd⟩
    have Hd := hide hd
    clear hd Hsp
    go_wp2_with fail
    refine NoPanic.normal ?_
    go_wp2_with fail
    refine bodyPost_ret (results_none rfl _ _ _) rfl ?_
    refine ⟨rfl, ?_⟩
    rw [Hfin.out]
    exact DrvDid.ahead (Hb1.out.trans ((Below.refl _ w1).drew.mono Hb1.out.size)) (H1.out.drew.devStep Hd.out)
end
end DV
end Go.Proofs.Ytdinbhanekpjoaa

/-
  A drive's happen: it is noted, and done.
-/
namespace Go.Proofs.Ytdinbhanekpjoaa
open Go.RowKit
/-- An event whose numbers an int holds. -/
structure EvV.Fits (e : EvV) : Prop where
  at_ : fits e.at_
  kind : fits e.kind
  zone : fits e.zone
  off : fits e.off
namespace DV
section
variable {w : World} {q d : Nat} {X : Dr} {F FD : Nat → Prop} {A : Option Addr} {c : Nat} {bs : List Nat} {Fs : Nat → Nat → Prop} {mb n : Nat} {Ac : Option Addr} {cc : Nat} {Ah : Option Addr} {ch : Nat}
set_option maxRecDepth 100000 in
set_option maxHeartbeats 2000000 in
theorem happen_any (h : DrvIs w q d X F FD A c bs Fs mb n Ac cc Ah ch) (e : EvV) (hL : ∀ x ∈ X.D.zs, x.L.length < 65536) (he : e.Fits) (hn : X.happened.length < 65000) (hmk : ∀ z o, (X.marks z o).2 ≤ 65536 ∧ 0 ≤ (X.marks z o).2) :
    Calls Try.prog 101 #[.pointer (some ⟨q, 0, none⟩), e.agg] w fun en w' => en = .returned (.tuple #[]) ∧ DrvDid w w' q d (X.happen e) F := by
  unfold EvV.agg
  have hb1 : Below w.heap.size w (w.alloc (.cells e.cells.toArray 66)) := (Below.refl _ w).alloc (Nat.le_refl _) _
  have ke := Blk.new w 66 e.cells.toArray
  have H1 := hide (h.below hb1)
  have Hb1 := hide hb1
  have Hlt := hide h.lt
  have He := hide he
  have HL := hide hL
  have Hn := hide hn
  have Hmk := hide hmk
  have Hcnt := hide h.cnt
  clear h he hL hn hmk
  go_enter Try.func101, Try.ntmps101
  go_upto_region 1 with (fail)
  generalize w.alloc (.cells e.cells.toArray 66) = w1 at hb1 ke H1 Hb1 ⊢
  obtain ⟨c0, c1, c2, c3, f1, f2⟩ := H1.out.cells
  have Ke := hide ke
  have Her := hide (e.range ke)
  obtain ⟨i0, hi, hz0, hz1, hz2⟩ := info_parts Ev.info
  have hb2 : Below w1.heap.size w1 (w1.drew.alloc (.cells e.cells.toArray 66)) := (Below.refl _ w1).drew.alloc (Nat.le_refl _) _
  have H2 := hide (H1.out.below hb2)
  have hS2 : Hid ((w1.drew.alloc (.cells e.cells.toArray 66)).cell? ⟨q, 2, none⟩ = some (.slice Ah X.happened.length ch) ∧ (w1.drew.alloc (.cells e.cells.toArray 66)).rangeAt w.heap.size 0 e.cells) :=
    hide ⟨H2.out.cells.2.2.1, ItS8.range_below hb2 ke.lt Her.out⟩
  have hsrc := hide (own_ev e (heap_alloc_new w1.drew (.cells e.cells.toArray 66)))
  have Hb2 := hide (Hb1.out.trans (hb2.mono Hb1.out.size))
  have Kb2 := hide (show Blk _ w.heap.size 66 e.cells.toArray from (hb2.block _ ke.lt).trans ke)
  clear hb1 ke hb2 f1 f2
  refine Reg.wp_region_reads (fun w' => w'.cell? ⟨q, 2, none⟩ = some (.slice Ah X.happened.length ch) ∧ w'.rangeAt w.heap.size 0 e.cells) 6 8 (by decide +kernel) (by decide +kernel) ⟨c2, Her.out⟩ ?_
  simp only [List.take_succ_cons, List.take_zero, List.drop_succ_cons, List.drop_zero]
  iterate 5
    apply Reg.wpReads_step rfl
    · intro w' hS
      obtain ⟨x0, x1⟩ := hS
      go_simp
      first | done | rfl
    intro K hK
    go_simp
    refine hK _ ?_
    clear hK K
  refine Reg.wpReads_load rfl 66 (.tmp 3) rfl w.heap.size 0 rfl e.cells _ (fun w' h => h.2) Try.underlying66 rfl (Ev.size e) (fun K hK => ?_)
  go_simp
  refine hK _ ?_
  clear hK K
  refine Reg.wpReads_nil ?_
  refine Reg.wpTail_step rfl (fun K hK => ?_)
  refine Ev.wp_build1 e (.tmp 9) rfl rfl ?_
  go_simp
  refine hK _ _ (fun _ => hS2.out) ?_
  clear hK K
  refine Reg.wpTail_step rfl (fun K hK => ?_)
  refine wp_append_src _ (.tmp 8) (.tmp 10) 118 rfl 0 66 i0 _ 68 96 Try.underlying118 hi hz0 hz1 hz2 (by simp [EvV.agg, Value.cells, EvV.length]) (by decide) (.slice Ah X.happened.length ch) X.happened.length (X.happened.flatMap EvV.cells) rfl H2.out.hap _ 1 1 e.cells rfl hsrc.out e.one (by have := Hn.out; unfold maxLen; omega) (by have := Hn.out; omega) (Nat.zero_le _) ?_
  intro v' w2 hown' hgrow hat
  obtain ⟨Ah', ch', rfl⟩ := own_form hown'
  go_simp
  have hm2 : Mods (fun k => blkOf Ah = some k) (w1.drew.alloc (.cells e.cells.toArray 66)) w2 := ⟨hgrow.os, hgrow.tape, hgrow.output, hgrow.size, fun k hk hne => hgrow.block k hk (fun e => hne (by rw [← own_blkOf Ah X.happened.length ch]; exact e.symm))⟩
  have kq : Blk w2 q 121 _ := H2.out.blk.mods hm2 (fun e => (H2.out.noH q e).1 rfl)
  have ke2 : Blk w2 w.heap.size 66 e.cells.toArray := Kb2.out.mods hm2 (fun e2 => by have := Hlt.out _ (H1.out.inF.2.2.2.2 _ e2); omega)
  refine hK _ _ (fun _ => ⟨kq.cell 2, e.range ke2⟩) ?_
  clear hK K
  refine Reg.wpTail_list _ _ _ _ (by omega) ?_
  have q2 : w2.frozen? ⟨q, 2, none⟩ = false := kq.frozen 2
  have q1 : w2.cell? ⟨q, 2, none⟩ = some (.slice Ah X.happened.length ch) := kq.cell 2
  have Hown := hide (show w2.ownsRow 0 66 68 (.slice Ah' (X.happened ++ [e]).length ch') (X.happened ++ [e]).length ((X.happened ++ [e]).flatMap EvV.cells) by rw [evs_snoc, List.length_append]; exact hown')
  have Hturn := hide (H2.out.hapTurn (L := X.happened ++ [e]) (by simp) Hown.out hm2 (fun g hg => by
    rw [own_blkOf, own_blkOf, hg] at hat
    rcases hat with h | h
    · exact .inl h.symm
    · right; simp at h; rw [h]; simp [World.size_alloc]))
  have Ke2 := hide ke2
  have Hq2 : Hid (w.heap.size ≠ q) := hide (fun e => by have := Hlt.out q H1.out.inF.1; omega)
  clear hown' hgrow hat hm2 kq ke2 c0 c1 c2 c3
  go_wp2_with fail
  refine NoPanic.normal ?_
  go_upto_region 2 with (fail)
  have ehl : ((X.happened.length : Int) + 1) = (((X.happened ++ [e]).length : Nat) : Int) := by simp
  rw [show X.happened.length + 1 = (X.happened ++ [e]).length by simp]
  obtain ⟨F3, h3, hm3, hF3⟩ := Hturn.out
  have k3 : Blk (w2.setCell ⟨q, 2, none⟩ (.slice Ah' (X.happened ++ [e]).length ch')) w.heap.size 66 e.cells.toArray := Ke2.out.far (p := ⟨q, 2, none⟩) Hq2.out _
  generalize w2.setCell ⟨q, 2, none⟩ (.slice Ah' (X.happened ++ [e]).length ch') = w3 at h3 hm3 k3 ⊢
  have h3 : DrvIs w3 q d (X.noted e) F3 FD A c bs Fs mb n Ac cc Ah' ch' := h3
  generalize w1.drew.alloc (.cells e.cells.toArray 66) = wB at hm3 hF3 Hb2
  have K3 := hide k3
  have H3 := hide h3
  have Hm3 := hide hm3
  have HF3 := hide hF3
  clear h3 hm3 hF3 Hturn Hown q1 q2 Ke2 hS2 hsrc H2 Kb2 ehl
  obtain ⟨e0, e1, e2, e3, er⟩ := EvV.blk4 k3
  obtain ⟨c0, c1, c2, c3, fq1, fq2⟩ := H3.out.cells
  clear er k3 fq1 fq2 c1 c2 c3
  by_cases hk1 : e.kind = 1
  · have f1 : (e.kind == 1) = true := beq_iff_eq.2 hk1
    have Hfin := hide (show X.happen e = (X.noted e).spoil e by unfold Dr.happen; rw [if_pos hk1])
    have hsp := spoil_any H3.out e HL.out He.out.zone He.out.off (show n + 1 ≤ (X.happened ++ [e]).length by have := Hcnt.out; simp; omega) (by have := Hcnt.out; have := Hn.out; omega) Hmk.out
    unfold EvV.agg at hsp
    have Hsp := hide hsp
    clear hk1 hsp
    go_wp2_with ((with_reducible refine wpList_load_mid ?g3 66 (.tmp 3) ?o3 w.heap.size (0) ?x3 e.cells ?d3 ?r3 ?u3 ?f3 ?i3 ?_); (case g3 => exact rfl); (case o3 => exact rfl); (case x3 => exact rfl); (case r3 => exact e.range K3.out); (case u3 => exact Try.underlying66); (case f3 => exact rfl); (case i3 => exact Ev.size _))
    refine Hsp.out.mono ?_
    rintro en w5 ⟨rfl, hd⟩
    have Hd := hide hd
    clear hd Hsp
    go_wp2_with fail
    go_end0
    refine ⟨rfl, ?_⟩
    rw [Hfin.out]
    exact DrvDid.ahead Hb2.out (DrvDid.join Hm3.out HF3.out Hd.out)
  · by_cases hk2 : e.kind = 2
    · have f1 : (e.kind == 1) = false := beq_eq_false_iff_ne.2 hk1
      have f2 : (e.kind == 2) = true := beq_iff_eq.2 hk2
      have Hfin := hide (show X.happen e = { X.noted e with D := (X.D.fail e.zone 3).1 } by unfold Dr.happen; rw [if_neg hk1, if_pos hk2])
      clear hk1 hk2
      go_upto_region 6 with (fail)
      have hfa := DM.fail_any H3.out.dev.drew e.zone 3
      have Hfa := hide hfa
      clear hfa
      refine Reg.wp_region_reads (fun w' => w'.cell? ⟨q, 0, none⟩ = some (.pointer (some ⟨d, 0, none⟩)) ∧ w'.cell? ⟨w.heap.size, 2, none⟩ = some (.int .i64 e.zone)) 6 6 (by decide +kernel) (by decide +kernel) ⟨c0, e2⟩ ?_
      simp only [List.take_succ_cons, List.take_zero, List.drop_succ_cons, List.drop_zero]
      iterate 6
        apply Reg.wpReads_step rfl
        · intro w' hS
          obtain ⟨x0, x1⟩ := hS
          go_simp
          first | done | rfl
        intro K hK
        go_simp
        refine hK _ ?_
        clear hK K
      refine Reg.wpReads_nil ?_
      refine Reg.wpTail_list _ _ _ _ (by omega) ?_
      go_wp2_with fail
      refine Hfa.out.mono ?_
      rintro en w5 ⟨rfl, hd⟩
      have Hd := hide hd
      clear hd Hfa
      go_wp2_with fail
      refine NoPanic.normal ?_
      go_wp2_with fail
      go_end0
      refine ⟨rfl, ?_⟩
      rw [Hfin.out]
      exact DrvDid.ahead Hb2.out (DrvDid.join Hm3.out.drew HF3.out (H3.out.drew.devStep Hd.out))
    · by_cases hk3 : e.kind = 3
      · have f1 : (e.kind == 1) = false := beq_eq_false_iff_ne.2 hk1
        have f2 : (e.kind == 2) = false := beq_eq_false_iff_ne.2 hk2
        have f3 : (e.kind == 3) = true := beq_iff_eq.2 hk3
        have Hfin := hide (show X.happen e = { X.noted e with D := (X.D.fail e.zone 4).1 } by unfold Dr.happen; rw [if_neg hk1, if_neg hk2, if_pos hk3])
        clear hk1 hk2 hk3
        go_upto_region 8 with (fail)
        have hfa := DM.fail_any H3.out.dev.drew e.zone 4
        have Hfa := hide hfa
        clear hfa
        refine Reg.wp_region_reads (fun w' => w'.cell? ⟨q, 0, none⟩ = some (.pointer (some ⟨d, 0, none⟩)) ∧ w'.cell? ⟨w.heap.size, 2, none⟩ = some (.int .i64 e.zone)) 6 6 (by decide +kernel) (by decide +kernel) ⟨c0, e2⟩ ?_
        simp only [List.take_succ_cons, List.take_zero, List.drop_succ_cons, List.drop_zero]
        iterate 6
          apply Reg.wpReads_step rfl
          · intro w' hS
            obtain ⟨x0, x1⟩ := hS
            go_simp
            first | done | rfl
          intro K hK
          go_simp
          refine hK _ ?_
          clear hK K
        refine Reg.wpReads_nil ?_
        refine Reg.wpTail_list _ _ _ _ (by omega) ?_
        go_wp2_with fail
        refine Hfa.out.mono ?_
        rintro en w5 ⟨rfl, hd⟩
        have Hd := hide hd
        clear hd Hfa
        go_wp2_with fail
        refine NoPanic.normal ?_
        go_wp2_with fail
        go_end0
        refine ⟨rfl, ?_⟩
        rw [Hfin.out]
        exact DrvDid.ahead Hb2.out (DrvDid.join Hm3.out.drew HF3.out (H3.out.drew.devStep Hd.out))
      · by_cases hk4 : e.kind = 4
        · have f1 : (e.kind == 1) = false := beq_eq_false_iff_ne.2 hk1
          have f2 : (e.kind == 2) = false := beq_eq_false_iff_ne.2 hk2
          have f3 : (e.kind == 3) = false := beq_eq_false_iff_ne.2 hk3
          have f4 : (e.kind == 4) = true := beq_iff_eq.2 hk4
          obtain ⟨Dd, hDd⟩ : ∃ Dd : Dv, Dd = { (X.noted e).D with down := true } := ⟨_, rfl⟩
          have Hfin := hide (show X.happen e = { X.noted e with D := Dd } by unfold Dr.happen; rw [if_neg hk1, if_neg hk2, if_neg hk3, if_pos hk4, hDd]; rfl)
          have hcr := DM.crash_any H3.out.dev
          have hcr2 := hcr
          rw [← hDd] at hcr2
          have Hcr := hide hcr2
          clear hk1 hk2 hk3 hk4 hcr hcr2 hDd
          go_wp2_with fail
          refine Hcr.out.mono ?_
          rintro en w5 ⟨rfl, hd⟩
          have Hd := hide hd
          clear hd Hcr
          go_wp2_with fail
          go_end0
          refine ⟨rfl, ?_⟩
          rw [Hfin.out]
          exact DrvDid.ahead Hb2.out (DrvDid.join Hm3.out HF3.out (H3.out.devStep Hd.out))
        · have f1 : (e.kind == 1) = false := beq_eq_false_iff_ne.2 hk1
          have f2 : (e.kind == 2) = false := beq_eq_false_iff_ne.2 hk2
          have f3 : (e.kind == 3) = false := beq_eq_false_iff_ne.2 hk3
          have f4 : (e.kind == 4) = false := beq_eq_false_iff_ne.2 hk4
          have Hfin := hide (show X.happen e = X.noted e by unfold Dr.happen; rw [if_neg hk1, if_neg hk2, if_neg hk3, if_neg hk4])
          clear hk1 hk2 hk3 hk4
          go_wp2_with fail
          go_end0
          refine ⟨rfl, ?_⟩
          rw [Hfin.out]
          exact DrvDid.ahead Hb2.out (DrvDid.join Hm3.out HF3.out H3.out.same)
end
end DV
end Go.Proofs.Ytdinbhanekpjoaa

/-
  What a drive's steps keep, in plain words.
-/
namespace Go.Proofs.Ytdinbhanekpjoaa
open Go.RowKit
namespace Dr
/-- What the drive's calls ask for. -/
structure Bd (X : Dr) : Prop where
  zs : ∀ x ∈ X.D.zs, x.L.length < 65536
  fit : ∀ e ∈ X.coming, e.Fits
  cnt : X.happened.length + X.coming.length < 65000
  mks : ∀ z o, 0 ≤ (X.marks z o).2 ∧ (X.marks z o).2 ≤ (X.happened.length : Int)
theorem Bd.mks2 {X : Dr} (h : X.Bd) : ∀ z o, (X.marks z o).2 ≤ 65536 ∧ 0 ≤ (X.marks z o).2 := fun z o => by
  have h1 := h.mks z o
  have h2 := h.cnt
  omega
theorem happen_coming (X : Dr) (e : EvV) : (X.happen e).coming = X.coming := by
  unfold happen
  split
  · unfold spoil; split <;> rfl
  split
  · rfl
  split
  · rfl
  split <;> rfl
theorem happen_happened (X : Dr) (e : EvV) : (X.happen e).happened = X.happened ++ [e] := by
  unfold happen
  split
  · unfold spoil; split <;> rfl
  split
  · rfl
  split
  · rfl
  split <;> rfl
theorem spoil_lens {D : Dv} {z off : Int} {p : Sec} (h : ∀ x ∈ D.zs, x.L.length < 65536) : ∀ x ∈ (D.spoil z off p).1.zs, x.L.length < 65536 := fun x hx => by
  unfold Dv.spoil at hx
  split at hx
  · exact h x hx
  · split at hx
    · rename_i y hy
      rcases List.mem_or_eq_of_mem_set hx with h1 | rfl
      · exact h x h1
      · have := h y (List.mem_of_getElem? hy)
        unfold Zn.change
        split
        · exact this
        · simpa using this
    · exact h x hx
theorem fail_lens {D : Dv} {z s : Int} (h : ∀ x ∈ D.zs, x.L.length < 65536) : ∀ x ∈ (D.fail z s).1.zs, x.L.length < 65536 := fun x hx => by
  unfold Dv.fail at hx
  split at hx
  · exact h x hx
  · split at hx
    · rename_i y hy
      rcases List.mem_or_eq_of_mem_set hx with h1 | rfl
      · exact h x h1
      · have := h y (List.mem_of_getElem? hy)
        unfold Zn.fail
        split
        · exact this
        · exact this
    · exact h x hx
theorem upd_bound {M : Marks} {B : Int} (h : ∀ z o, 0 ≤ (M z o).2 ∧ (M z o).2 ≤ B) (z o : Int) (m : Sec × Int) (h1 : 0 ≤ m.2) (h2 : m.2 ≤ B + 1) : ∀ z' o', 0 ≤ (M.upd z o m z' o').2 ∧ (M.upd z o m z' o').2 ≤ B + 1 := fun z' o' => by
  unfold Marks.upd
  split
  · exact ⟨h1, h2⟩
  · have := h z' o'; omega
/-- An event is taken off and happens. -/
theorem Bd.happen {X : Dr} {e : EvV} {l : List EvV} (h : X.Bd) (hc : X.coming = e :: l) : (({ X with coming := l } : Dr).happen e).Bd := by
  have hcnt := h.cnt
  rw [hc, List.length_cons] at hcnt
  have hfit : ∀ f ∈ l, f.Fits := fun f hf => h.fit f (by rw [hc]; exact List.mem_cons_of_mem _ hf)
  have hmk : ∀ z o, 0 ≤ (X.marks z o).2 ∧ (X.marks z o).2 ≤ ((X.happened ++ [e]).length : Nat) := fun z o => by have := h.mks z o; simp; omega
  have hlen : (X.happened ++ [e]).length = X.happened.length + 1 := by simp
  refine ⟨?_, ?_, ?_, ?_⟩
  · unfold Dr.happen
    split
    · unfold spoil
      split <;> exact spoil_lens h.zs
    split
    · exact fail_lens h.zs
    split
    · exact fail_lens h.zs
    split <;> exact h.zs
  · rw [happen_coming]; exact hfit
  · rw [happen_coming, happen_happened]
    show (X.happened ++ [e]).length + l.length < 65000
    omega
  · rw [happen_happened]
    show ∀ z o, _ ∧ _ ≤ (((X.happened ++ [e]).length : Nat) : Int)
    unfold Dr.happen
    split
    · unfold spoil
      split
      · intro z o
        have := upd_bound h.mks e.zone e.off ((X.marks e.zone e.off).1.xor e.p, (X.marks e.zone e.off).2 + 1) (by have := h.mks e.zone e.off; show 0 ≤ _ + 1; omega) (by have := h.mks e.zone e.off; show _ + 1 ≤ _; omega) z o
        rw [hlen, Int.natCast_add]
        exact this
      · exact hmk
    split
    · exact hmk
    split
    · exact hmk
    split <;> exact hmk
theorem due_of {X : Dr} {e : EvV} {l : List EvV} (hc : X.coming = e :: l) (h1 : X.D.down = false) (h2 : e.at_ ≤ (X.D.n : Int)) : X.due = (({ X with coming := l } : Dr).happen e).due := by
  unfold due
  rw [hc, happen_coming]
  show dueL (e :: l) X = _
  rw [dueL, if_pos ⟨h1, h2⟩]
theorem due_down {X : Dr} (h : X.D.down = true) : X.due = X := by
  unfold due
  cases X.coming with
  | nil => rfl
  | cons e l => rw [dueL, if_neg (by rw [h]; simp)]
theorem due_nil {X : Dr} (h : X.coming = []) : X.due = X := by unfold due; rw [h]; rfl
theorem due_late {X : Dr} {e : EvV} {l : List EvV} (hc : X.coming = e :: l) (h2 : ¬ e.at_ ≤ (X.D.n : Int)) : X.due = X := by
  unfold due
  rw [hc, dueL, if_neg (fun h => h2 h.2)]
/-- What every event that happens keeps holds behind them all. -/
theorem due_ind {P : Dr → Prop} (X : Dr) (h0 : P X) (hs : ∀ Y e l, P Y → Y.coming = e :: l → Y.D.down = false → e.at_ ≤ (Y.D.n : Int) → P (({ Y with coming := l } : Dr).happen e)) : P X.due := by
  have key : ∀ l X, X.coming = l → P X → P (dueL l X) := by
    intro l
    induction l with
    | nil => intro X _ h; exact h
    | cons e l ih =>
      intro X hc h
      rw [dueL]
      split
      · rename_i hcond
        exact ih _ (happen_coming _ _) (hs X e l h hc hcond.1 hcond.2)
      · exact h
  exact key _ X rfl h0
theorem spoil_n (D : Dv) (z off : Int) (p : Sec) : (D.spoil z off p).1.n = D.n := by
  unfold Dv.spoil; split
  · rfl
  · split <;> rfl
theorem fail_n (D : Dv) (z s : Int) : (D.fail z s).1.n = D.n := by
  unfold Dv.fail; split
  · rfl
  · split <;> rfl
theorem happen_dev (X : Dr) (e : EvV) (m : Nat) (h : X.D.Ok m) : (X.happen e).D.n = X.D.n ∧ X.D.Like (X.happen e).D ∧ (X.happen e).D.Ok m := by
  unfold Dr.happen
  split
  · have h1 := Dv.spoil_ok h e.zone e.off e.p
    unfold spoil
    split <;> exact ⟨spoil_n _ _ _ _, h1.2, h1.1⟩
  split
  · have h1 := Dv.fail_ok h e.zone 3
    exact ⟨fail_n _ _ _, h1.2, h1.1⟩
  split
  · have h1 := Dv.fail_ok h e.zone 4
    exact ⟨fail_n _ _ _, h1.2, h1.1⟩
  split
  · exact ⟨rfl, ⟨rfl, rfl, rfl⟩, ⟨h.n, h.zs⟩⟩
  · exact ⟨rfl, .refl _, h⟩
theorem happen_zlen (X : Dr) (e : EvV) : (X.happen e).D.zs.length = X.D.zs.length := by
  have sp : ∀ (D : Dv) z off p, (D.spoil z off p).1.zs.length = D.zs.length := fun D z off p => by
    unfold Dv.spoil; split
    · rfl
    · split
      · simp [Dv.put]
      · rfl
  have fa : ∀ (D : Dv) z s, (D.fail z s).1.zs.length = D.zs.length := fun D z s => by
    unfold Dv.fail; split
    · rfl
    · split
      · simp [Dv.put]
      · rfl
  unfold Dr.happen
  split
  · unfold spoil
    split <;> exact sp _ _ _ _
  split
  · exact fa _ _ _
  split
  · exact fa _ _ _
  split <;> rfl
/-- Behind the events the device has its form, its count and its bounds. -/
theorem due_keeps {X : Dr} (hb : X.Bd) {m : Nat} (h : X.D.Ok m) : X.due.Bd ∧ X.due.D.n = X.D.n ∧ X.D.Like X.due.D ∧ X.due.D.Ok m :=
  due_ind (P := fun Y => Y.Bd ∧ Y.D.n = X.D.n ∧ X.D.Like Y.D ∧ Y.D.Ok m) X ⟨hb, rfl, .refl _, h⟩ (fun Y e l hY hc _ _ => by
    have h1 := happen_dev ({ Y with coming := l } : Dr) e m hY.2.2.2
    exact ⟨hY.1.happen hc, h1.1.trans hY.2.1, hY.2.2.1.trans h1.2.1, h1.2.2⟩)
theorem begin_keeps {X : Dr} (hb : X.Bd) {m : Nat} (h : X.D.Ok m) (z : Int) : (X.begin_ z).Bd ∧ (X.begin_ z).D.n = X.D.n ∧ X.D.Like (X.begin_ z).D ∧ (X.begin_ z).D.Ok m := by
  unfold begin_
  split
  · exact due_keeps hb h
  · exact ⟨hb, rfl, .refl _, h⟩
theorem fits_zero : fits 0 := fits_of (by decide) (by decide)
theorem append_off {D : Dv} (z : Int) (s : Sec) (hL : ∀ x ∈ D.zs, x.L.length < 65536) : fits (D.append z s).2.1 := by
  unfold Dv.append
  split
  · exact fits_zero
  · split
    · rename_i x hx
      split
      · exact fits_zero
      · have := hL x (List.mem_of_getElem? hx)
        dsimp only
        unfold Zn.append
        split
        · exact fits_zero
        · split
          · exact fits_zero
          · exact fits_of (by dsimp only; omega) (by dsimp only; omega)
    · exact fits_zero
end Dr
end Go.Proofs.Ytdinbhanekpjoaa

/-
  slices.Clone at events; a drive's due and begin.
-/
namespace Go.Proofs.Ytdinbhanekpjoaa
open Go.RowKit
namespace DV
theorem own_empty {w : World} (e : TypeId) (size : Nat) {g : Nat} (h : w.heap[g]? = some (.cells #[] e (0, 0))) : w.ownsRow 0 e size (.slice (some ⟨g, 0, none⟩) 0 0) 0 [] :=
  ⟨by simp, .inr ⟨g, 0, #[], rfl, Nat.zero_le _, h, Nat.le_refl _, by simp [maxLen], by simp, by simp⟩⟩
set_option maxRecDepth 100000 in
set_option maxHeartbeats 1000000 in
theorem clone_any (ab ao : Nat) (L : List EvV) (c : Nat) (w : World) (hc : ∀ j u, (L.flatMap EvV.cells)[j]? = some u → w.cell? ⟨ab, ao + j, none⟩ = some u) (hl : L.length < 65536) (_hcap : L.length ≤ c) :
    Calls Try.prog 100 #[.slice (some ⟨ab, ao, none⟩) L.length c] w fun e w' => ∃ A2 c2, e = .returned (.slice A2 L.length c2) ∧ w'.ownsRow 0 66 68 (.slice A2 L.length c2) L.length (L.flatMap EvV.cells) ∧ Below w.heap.size w w' ∧ ∀ g, blkOf A2 = some g → w.heap.size ≤ g := by
  obtain ⟨i0, hi, hz0, hz1, hz2⟩ := info_parts Ev.info
  have hb1 : Below w.heap.size w (w.alloc (.cells #[] 66)) := (Below.refl _ w).alloc (Nat.le_refl _) _
  have Ho := hide (own_empty 66 68 (heap_alloc_new w (.cells #[] 66)))
  have hc' : ∀ j u, (L.flatMap EvV.cells)[j]? = some u → w.cell? ((⟨ab, ao, none⟩ : Addr).add j) = some u := fun j u hj => by rw [Addr.add_lit]; exact hc j u hj
  have Hc := hide (fun j u hj => (hb1.cell (p := (⟨ab, ao, none⟩ : Addr).add j) (block_lt_of_cell (hc' j u hj))).trans (hc' j u hj))
  have Hb1 := hide hb1
  have he : ∀ w : World, (binOp .eql 118 (.slice (some ⟨ab, ao, none⟩) L.length c) (.slice none 0 0)).run Try.prog w = .ok (.bool false) w := fun _ => rfl
  clear hc hc' hb1
  go_enter Try.func100, Try.ntmps100
  go_wp2_with (at_builtin; refine wpList_append_own_at _ rfl (.tmp 5) (.tmp 6) 118 rfl 0 66 i0 _ 68 96 Try.underlying118 hi hz0 hz1 hz2 (by simp [EvV.agg, Value.cells, EvV.length]) (by decide) (.slice (some ⟨w.heap.size, 0, none⟩) 0 0) 0 [] rfl Ho.out ⟨ab, ao, none⟩ L.length c (L.flatMap EvV.cells) rfl (evs_length L) Hc.out (evs_one L) (by unfold maxLen; omega) (by omega) (Nat.zero_le _) ?_; intro v' w1 hown' hgrow hnil hat; obtain ⟨A', c', rfl⟩ := own_form hown'; have Hown := hide hown'; have Hgrow := hide hgrow; have Hat := hide hat; clear hown' hgrow hnil hat)
  go_ret
  have hg := Hgrow.out
  have hs := hg.size
  have hown := Hown.out
  simp only [Nat.zero_add, List.nil_append] at hown
  rw [World.size_alloc] at hs
  refine ⟨A', c', by simp, hown, Hb1.out.trans ⟨hg.os, hg.tape, hg.output, hg.size, fun k hk => hg.block k (by simp; omega) (fun e => by simp [Value.ownBlock] at e; omega)⟩, fun g hgg => ?_⟩
  have h := Hat.out
  rw [own_blkOf, own_blkOf, hgg] at h
  rcases h with h | h
  · simp [blkOf] at h; omega
  · simp at h; omega
section
variable {w : World} {q d : Nat} {X : Dr} {F FD : Nat → Prop} {A : Option Addr} {c : Nat} {bs : List Nat} {Fs : Nat → Nat → Prop} {mb n : Nat} {Ac : Option Addr} {cc : Nat} {Ah : Option Addr} {ch : Nat}
/-- How much is to come, read off the memory. -/
def left8 (q : Nat) (w : World) : Nat := match w.cell? ⟨q, 1, none⟩ with | some (.slice _ n _) => n | _ => 0
theorem left8_of (h : DrvIs w q d X F FD A c bs Fs mb n Ac cc Ah ch) : left8 q w = X.coming.length := by
  unfold left8
  rw [h.cells.2.1]
set_option maxRecDepth 100000 in
set_option maxHeartbeats 4000000 in
theorem due_any (h : DrvIs w q d X F FD A c bs Fs mb n Ac cc Ah ch) (hb : X.Bd) : Calls Try.prog 95 #[.pointer (some ⟨q, 0, none⟩)] w fun en w' => en = .returned (.tuple #[]) ∧ DrvDid w w' q d X.due F := by
  have Hstart := hide h.same
  have Hlt := hide h.lt
  have Hb0 := hide hb
  clear h hb
  go_enter Try.func95, Try.ntmps95
  go_wp2_with fail
  go_loopw [2] (fun _ wr => ∃ Y : Dr, Y.due = X.due ∧ Y.Bd ∧ DrvDid w wr q d Y F) (fun _ wr => left8 q wr)
  case atStart => exact ⟨X, rfl, Hb0.out, Hstart.out⟩
  case round =>
    obtain ⟨Y, hdue, hbd, F1, FD1, A, c, bs, Fs1, mb, n, Ac, cc, Ah, ch, h1, hm1, hF1⟩ := hrel
    have H1 := hide h1
    have Hm1 := hide hm1
    have HF1 := hide hF1
    have Hbd := hide hbd
    have Hdue := hide hdue
    have Hmeas := hide (left8_of h1)
    obtain ⟨c0, c1, c2, c3, f1, f2⟩ := h1.cells
    clear h1 hm1 hF1 hbd hdue c2 c3 f2
    have Hdn := hide (fun k => DM.down_any (H1.out.drewN k).dev)
    have Hcn := hide (fun k => DM.count_any (H1.out.drewN k).dev)
    by_cases hdn : Y.D.down = true
    · have hY := Dr.due_down hdn
      have Hfin := hide (hY.symm.trans Hdue.out)
      rw [hdn] at Hdn
      clear hdn hY
      go_upto_region 0 with (fail)
      go_quiet (first | (go_at_call 20; exact DM.quiet Hdn.out _) | (go_at_call 26; exact DM.quiet Hcn.out _))
      go_wp2_with fail
      go_end0
      refine ⟨rfl, ?_⟩
      rw [← Hfin.out]
      exact DrvDid.join Hm1.out HF1.out ((H1.out.drewN _).did (Below.refl _ _) |> fun h => DrvDid.ahead ((Mods.refl (fun _ => False) wr).drewN nq |>.below (Nat.le_refl _) (fun _ h => h.elim)) h)
    · have hdn2 : Y.D.down = false := by simpa using hdn
      rw [hdn2] at Hdn
      clear hdn
      rcases hcm : Y.coming with _ | ⟨e, l⟩
      · have hY := Dr.due_nil hcm
        have Hfin := hide (hY.symm.trans Hdue.out)
        rw [hcm] at c1
        clear hcm hY hdn2
        go_upto_region 0 with (fail)
        go_quiet (first | (go_at_call 20; exact DM.quiet Hdn.out _) | (go_at_call 26; exact DM.quiet Hcn.out _))
        go_wp2_with fail
        go_end0
        refine ⟨rfl, ?_⟩
        rw [← Hfin.out]
        exact DrvDid.join Hm1.out HF1.out ((H1.out.drewN _).did (Below.refl _ _) |> fun h => DrvDid.ahead ((Mods.refl (fun _ => False) wr).drewN nq |>.below (Nat.le_refl _) (fun _ h => h.elim)) h)
      · have hev := Evs.of_own (G := fun _ => True) H1.out.com (fun _ _ => trivial)
        rw [hcm] at hev c1
        rw [hcm, List.length_cons] at Hmeas
        have hlen : Y.happened.length + (e :: l).length < 65000 := by have := Hbd.out.cnt; rwa [hcm] at this
        have hcc := (own_cap H1.out.com).1
        rw [hcm] at hcc
        simp only [List.length_cons] at c1 hlen hcc
        obtain ⟨g, off, rfl, -, hg, hr⟩ := hev (by simp)
        have hoff : off = 0 := by
          rcases H1.out.com.2 with ⟨h', h0⟩ | ⟨g', cap, cur, h', _⟩
          · rw [hcm] at h0; simp at h0
          · simp only [Value.slice.injEq, Option.some.injEq, Addr.mk.injEq] at h'
            exact h'.1.2.1
        subst hoff
        have hr0 := hr 0 (by simp)
        simp only [List.getElem_cons_zero, Nat.zero_mul, Nat.zero_add] at hr0
        obtain ⟨e0, -⟩ := EvV.four hr0
        have Hr0 := hide hr0
        have Hlen := hide hlen
        have Hcc := hide hcc
        have Hg := hide hg
        have HrT := hide (fun j (hj : j < l.length) => by
          have := hr (j + 1) (by simpa using hj)
          rwa [List.getElem_cons_succ] at this)
        have dl : decide ((0 : Int) < (l.length : Int) + 1) = true := decide_eq_true (by omega)
        have dl2 : decide (0 < l.length + 1) = true := decide_eq_true (by omega)
        have Hcm := hide hcm
        clear hr0 hr hlen hcc hg hev hcm
        by_cases hle : e.at_ ≤ (Y.D.n : Int)
        · have dle : decide (e.at_ ≤ (Y.D.n : Int)) = true := decide_eq_true hle
          have Hfin := hide ((Dr.due_of Hcm.out hdn2 hle).symm.trans Hdue.out)
          have Hbd2 := hide (Hbd.out.happen Hcm.out)
          clear hle hdn2
          go_upto_region 0 with (fail)
          go_quiet (first | (go_at_call 20; exact DM.quiet Hdn.out _) | (go_at_call 26; exact DM.quiet Hcn.out _))
          have hbq := ((Mods.refl (fun _ => False) wr).drewN nq |>.below (Nat.le_refl _) (fun _ h => h.elim) : Below wr.heap.size wr (wr.drewN nq))
          have h2 := H1.out.drewN nq
          have hr2 : (wr.drewN nq).rangeAt g 0 e.cells := Hr0.out
          have HrT2 : ∀ j (hj : j < l.length), (wr.drewN nq).rangeAt g (0 + (j + 1) * 68) l[j].cells := HrT.out
          have hgq : g < (wr.drewN nq).heap.size := Hg.out
          generalize wr.drewN nq = wq at hbq h2 hr2 HrT2 hgq ⊢
          have Hbq := hide hbq
          have H2 := hide h2
          have Hr2 := hide hr2
          have HrT2 := hide HrT2
          have Hgq := hide hgq
          obtain ⟨d0, d1, -⟩ := h2.cells
          rw [Hcm.out] at d1
          simp only [List.length_cons] at d1
          have HZ := hide (Blk.new wq 66 EvV.zero.cells.toArray)
          have hba : Below wq.heap.size wq ((wq.alloc (.cells EvV.zero.cells.toArray 66)).setRow wq.heap.size e.cells.toArray) := below_setRow ((Below.refl _ wq).alloc (Nat.le_refl _) _) (Nat.le_refl _) _
          have hks := HZ.out.setRow e.cells.toArray
          clear hbq h2 hr2 hgq c0 c1 f1 e0 HrT Hr0
          go_upto_region 2 with (first | ((with_reducible refine wpList_load_mid ?g1 66 (.tmp 36) ?o1 g (0) ?x1 e.cells ?d1 ?r1 ?u1 ?f1 ?i1 ?_); (case g1 => exact rfl); (case o1 => exact rfl); (case x1 => exact rfl); (case r1 => exact Hr2.out); (case u1 => exact Try.underlying66); (case f1 => exact rfl); (case i1 => exact Ev.size _)) | ((with_reducible refine wpList_store_row ?g2 66 (.tmp 2) (.tmp 37) ?o2 wq.heap.size e.cells.toArray ?x2 ?y2 66 EvV.zero.cells.toArray ?k2 ?s2 ?l2 ?a2 ?_); (case g2 => exact rfl); (case o2 => exact rfl); (case x2 => exact rfl); (case y2 => exact rfl); (case k2 => exact HZ.out); (case s2 => exact Ev.sizeR _); (case l2 => simp [EvV.length]); (case a2 => exact EvV.all _)))
          generalize hWA : World.setRow (World.alloc wq _) _ _ = wa
          have hWA' : (wq.alloc (.cells EvV.zero.cells.toArray 66)).setRow wq.heap.size e.cells.toArray = wa := hWA
          rw [hWA'] at hba hks
          clear hWA hWA' HZ
          have H3 := hide (H2.out.below hba)
          obtain ⟨c0, c1, -, -, -, -⟩ := H3.out.cells
          rw [Hcm.out] at c1
          simp only [List.length_cons] at c1
          have Ks := hide hks
          have Hba := hide hba
          have hcl : ∀ j u, (l.flatMap EvV.cells)[j]? = some u → wa.cell? ⟨g, 68 + j, none⟩ = some u := fun j u hj => by
            have hjl : j < l.length * 68 := by rw [← evs_length]; exact (List.getElem?_eq_some_iff.1 hj).1
            have hm : j / 68 < l.length := by omega
            have hg2 := evs_get l (j / 68) hm (j % 68) (Nat.mod_lt _ (by omega))
            rw [show j / 68 * 68 + j % 68 = j by omega, hj] at hg2
            have := ItS8.range_below Hba.out Hgq.out (HrT2.out (j / 68) hm) (j % 68) u hg2.symm
            rwa [show 0 + (j / 68 + 1) * 68 + j % 68 = 68 + j by omega] at this
          have Hcl := hide hcl
          clear d0 d1 hba hks hcl
          by_cases hc1 : cc = 1
          · have hl0 : l = [] := List.length_eq_zero_iff.1 (by have := Hcc.out; omega)
            subst hc1
            subst hl0
            have Hclone := hide (clone_any g 0 [] 0 wa (fun j u hj => by simp at hj) (by simp) (by simp))
            clear Hcl
            simp only [List.length_nil] at Hclone c1
            go_wp2_with fail
            refine Hclone.out.mono ?_
            rintro en w5 ⟨A2, c2, rfl, hown, hb5, hnew⟩
            have kq5 : Blk w5 q 121 _ := (H3.out.below hb5).blk
            have q1 := kq5.cell 1
            have fq1 := kq5.frozen 1
            have hturn := H3.out.comStep (L := ([] : List EvV)) hown (Mods.of_below hb5 _) (fun g hg => .inr (hnew g hg))
            have hbox := DrvDid.box Ks.out hturn (fun hf => by have := H1.out.lt _ hf; have := Hbq.out.size; omega)
            obtain ⟨F6, FD6, A6, c6, bs6, Fs6, mb6, n6, Ac6, cc6, Ah6, ch6, h6, hm6, hF6⟩ := hturn
            have hhap := happen_any h6 e Hbd.out.zs (Hbd.out.fit e (by rw [Hcm.out]; simp)) (by have := Hlen.out; show Y.happened.length < 65000; omega) Hbd.out.mks2
            unfold EvV.agg at hhap
            have Hhap := hide hhap
            have Hm6 := hide hm6
            have HF6 := hide hF6
            have K6 := hide hbox
            clear hown hnew h6 hm6 hF6 hbox hhap Hclone kq5 hb5
            go_upto_region 3 with (fail)
            generalize w5.setCell ⟨q, 1, none⟩ _ = w6 at Hhap Hm6 K6 ⊢
            clear q1 fq1
            go_wp2_with ((with_reducible refine wpList_load_mid ?g3 66 (.tmp 2) ?o3 wq.heap.size (0) ?x3 e.cells ?d3 ?r3 ?u3 ?f3 ?i3 ?_); (case g3 => exact rfl); (case o3 => exact rfl); (case x3 => exact rfl); (case r3 => exact e.range K6.out); (case u3 => exact Try.underlying66); (case f3 => exact rfl); (case i3 => exact Ev.size _))
            refine Hhap.out.mono ?_
            rintro en w7 ⟨rfl, hd⟩
            have Hleft : Hid (left8 q w7 = (([] : List EvV)).length) := hide (by
              obtain ⟨_, _, _, _, _, _, _, _, _, _, _, _, h8, _⟩ := hd
              rw [left8_of h8, Dr.happen_coming])
            have Hdid := hide (DrvDid.join Hm1.out HF1.out (DrvDid.ahead Hbq.out (DrvDid.ahead Hba.out (DrvDid.join Hm6.out HF6.out hd))))
            clear hd Hhap
            go_wp2_with fail
            go_roundw
            case rel => exact ⟨_, Hfin.out, Hbd2.out, Hdid.out⟩
            case measure => rw [Hleft.out, Hmeas.out]; simp
          · have Hclone := hide (clone_any g 68 l (cc - 1) wa Hcl.out (by have := Hlen.out; omega) (by have := Hcc.out; omega))
            have hcc2 : ¬ cc = 1 := hc1
            have hcc3 : (l.length : Int) + 1 ≤ (cc : Int) := by have := Hcc.out; omega
            have hcc4 : l.length + 1 ≤ cc := Hcc.out
            clear Hcl hc1
            go_wp2_with fail
            refine Hclone.out.mono ?_
            rintro en w5 ⟨A2, c2, rfl, hown, hb5, hnew⟩
            have kq5 : Blk w5 q 121 _ := (H3.out.below hb5).blk
            have q1 := kq5.cell 1
            have fq1 := kq5.frozen 1
            have hturn := H3.out.comStep (L := l) hown (Mods.of_below hb5 _) (fun g hg => .inr (hnew g hg))
            have hbox := DrvDid.box Ks.out hturn (fun hf => by have := H1.out.lt _ hf; have := Hbq.out.size; omega)
            obtain ⟨F6, FD6, A6, c6, bs6, Fs6, mb6, n6, Ac6, cc6, Ah6, ch6, h6, hm6, hF6⟩ := hturn
            have hhap := happen_any h6 e Hbd.out.zs (Hbd.out.fit e (by rw [Hcm.out]; simp)) (by have := Hlen.out; show Y.happened.length < 65000; omega) Hbd.out.mks2
            unfold EvV.agg at hhap
            have Hhap := hide hhap
            have Hm6 := hide hm6
            have HF6 := hide hF6
            have K6 := hide hbox
            clear hown hnew h6 hm6 hF6 hbox hhap Hclone kq5 hb5
            go_upto_region 3 with (fail)
            generalize w5.setCell ⟨q, 1, none⟩ _ = w6 at Hhap Hm6 K6 ⊢
            clear q1 fq1
            go_wp2_with ((with_reducible refine wpList_load_mid ?g3 66 (.tmp 2) ?o3 wq.heap.size (0) ?x3 e.cells ?d3 ?r3 ?u3 ?f3 ?i3 ?_); (case g3 => exact rfl); (case o3 => exact rfl); (case x3 => exact rfl); (case r3 => exact e.range K6.out); (case u3 => exact Try.underlying66); (case f3 => exact rfl); (case i3 => exact Ev.size _))
            refine Hhap.out.mono ?_
            rintro en w7 ⟨rfl, hd⟩
            have Hleft : Hid (left8 q w7 = (l).length) := hide (by
              obtain ⟨_, _, _, _, _, _, _, _, _, _, _, _, h8, _⟩ := hd
              rw [left8_of h8, Dr.happen_coming])
            have Hdid := hide (DrvDid.join Hm1.out HF1.out (DrvDid.ahead Hbq.out (DrvDid.ahead Hba.out (DrvDid.join Hm6.out HF6.out hd))))
            clear hd Hhap
            go_wp2_with fail
            go_roundw
            case rel => exact ⟨_, Hfin.out, Hbd2.out, Hdid.out⟩
            case measure => rw [Hleft.out, Hmeas.out]; simp
        · have dle : decide (e.at_ ≤ (Y.D.n : Int)) = false := decide_eq_false hle
          have Hfin := hide ((Dr.due_late Hcm.out hle).symm.trans Hdue.out)
          clear hle hdn2
          go_upto_region 0 with (fail)
          go_quiet (first | (go_at_call 20; exact DM.quiet Hdn.out _) | (go_at_call 26; exact DM.quiet Hcn.out _))
          go_wp2_with fail
          go_end0
          refine ⟨rfl, ?_⟩
          rw [← Hfin.out]
          exact DrvDid.join Hm1.out HF1.out ((H1.out.drewN _).did (Below.refl _ _) |> fun h => DrvDid.ahead ((Mods.refl (fun _ => False) wr).drewN nq |>.below (Nat.le_refl _) (fun _ h => h.elim)) h)
end
end DV
end Go.Proofs.Ytdinbhanekpjoaa
