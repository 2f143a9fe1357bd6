/-
  Sectors of whole bytes, exclusive or in plain words, and how a slice of steps that comes in is read, with what its sectors hold.
-/
import Derived.Test.YtdinbhanekpjoaaQO
import Derived.Laws.BitsAllLaws
import Derived.Test.YtdinbhanekpjoaaQD
import Derived.Laws.Tables
import Derived.Test.YtdinbhanekpjoaaReg
import Derived.CallsIn
import Derived.TacticsIn
import Derived.Deep.Quiet
import Derived.Deep.RegionHeld
import Derived.RangeFuncCalls
import Derived.Test.YtdinbhanekpjoaaItS
import Derived.Test.YtdinbhanekpjoaaZDA
import Derived.Deep.OwnRows
import Derived.Test.YtdinbhanekpjoaaQE
namespace Go.Proofs.Ytdinbhanekpjoaa
open Go.ChangeShapes Go.WideShapes Go.ChangeAt Go.RowKit Go.Deep

theorem bits_x (a b : Int) : bits .xor .u8 a b = ((BitVec.ofInt 8 a ^^^ BitVec.ofInt 8 b).toNat : Int) := by
  show IntKind.u8.wrap ((BitVec.ofInt 8 a ^^^ BitVec.ofInt 8 b).toNat : Int) = _
  have h : (BitVec.ofInt 8 a ^^^ BitVec.ofInt 8 b).toNat < 256 := (BitVec.ofInt 8 a ^^^ BitVec.ofInt 8 b).isLt
  rw [IntKind.wrap_u8']
  omega
theorem bits_assoc (a b c : Int) : bits .xor .u8 (bits .xor .u8 a b) c = bits .xor .u8 a (bits .xor .u8 b c) := by
  simp only [bits_x]
  rw [BitVec.ofInt_natCast, BitVec.ofInt_natCast, BitVec.ofNat_toNat, BitVec.ofNat_toNat, BitVec.setWidth_eq, BitVec.setWidth_eq, BitVec.xor_assoc]
theorem bits_zero (a : Int) (h1 : 0 ≤ a) (h2 : a < 256) : bits .xor .u8 a 0 = a := by
  obtain ⟨A, rfl⟩ := Int.eq_ofNat_of_zero_le h1
  have := u8_xor_nat A 0 (by omega) (by omega)
  simpa using this
theorem Sec.xor_at (s p : Sec) (i : Nat) (hi : i < 64) : ∃ a b : Int, s.cs[i]? = some (.int .u8 a) ∧ p.cs[i]? = some (.int .u8 b) ∧ (s.xor p).cs[i]? = some (.int .u8 (bits .xor .u8 a b)) := by
  obtain ⟨a, ha⟩ := ZD.byte_at s i hi
  obtain ⟨b, hb⟩ := ZD.byte_at p i hi
  exact ⟨a, b, ha, hb, ZD.xor_get s p i a b ha hb⟩
theorem Sec.ext_at {s t : Sec} (h : ∀ i, i < 64 → s.cs[i]? = t.cs[i]?) : s = t := by
  apply Sec.ext
  apply List.ext_getElem?
  intro i
  by_cases hi : i < 64
  · exact h i hi
  · rw [List.getElem?_eq_none (by rw [s.len]; omega), List.getElem?_eq_none (by rw [t.len]; omega)]
theorem Sec.xor_assoc (s t u : Sec) : (s.xor t).xor u = s.xor (t.xor u) := Sec.ext_at (fun i hi => by
  obtain ⟨a, b, ha, hb, h1⟩ := Sec.xor_at s t i hi
  obtain ⟨b', c, hb', hc, h2⟩ := Sec.xor_at t u i hi
  rw [hb] at hb'
  cases hb'
  rw [ZD.xor_get _ _ i _ _ h1 hc, ZD.xor_get _ _ i _ _ ha h2, bits_assoc])
/-- Its cells are bytes. -/
def Sec.Byte (s : Sec) : Prop := s.xor Sec.zero = s
theorem Sec.byte_of {s : Sec} (h : ∀ v ∈ s.cs, ∃ n : Int, v = .int .u8 n ∧ 0 ≤ n ∧ n < 256) : s.Byte := Sec.ext_at (fun i hi => by
  have hi' : i < s.cs.length := by rw [s.len]; exact hi
  obtain ⟨n, hn, h1, h2⟩ := h _ (List.getElem_mem hi')
  have ha : s.cs[i]? = some (.int .u8 n) := by rw [List.getElem?_eq_getElem hi', hn]
  have hz : Sec.zero.cs[i]? = some (.int .u8 0) := by
    show (List.replicate 64 _)[i]? = _
    rw [List.getElem?_replicate, if_pos hi]
  rw [ZD.xor_get s Sec.zero i n 0 ha hz, bits_zero n h1 h2, ha])
theorem wf_u8 {n : Int} (h : (Lit.int .u8 n).wf = true) : 0 ≤ n ∧ n < 256 := by
  simp only [Lit.wf, IntKind.min, IntKind.max, Bool.and_eq_true] at h
  have h1 := of_decide_eq_true h.1
  have h2 := of_decide_eq_true h.2
  simp [IntKind.signed, IntKind.bits] at h1 h2
  omega
section
variable {H : Type} {enc : TypeId × Value → H} {w : World} {base : Nat} {spare : Nat → Bool} {held : Bool} {fuel : Nat}
theorem sec_came2 {cs : List Value} {x : DataW H × List MemPlace} (h : DataW.trod enc Try.prog w base spare held fuel 34 cs = some x) : ∃ s : Sec, cs = s.cs ∧ s.Byte := by
  obtain ⟨xs, m, _, _, hl, hxl, hx⟩ := DataW.trod_array Try.underlying34 h
  have hc : Try.prog.cellsOf 34 = 64 := by kernel_rfl
  have h1 : Try.prog.cellsOf 5 = 1 := by kernel_rfl
  rw [hc] at hl
  have hb : ∀ v ∈ cs, ∃ n : Int, v = .int .u8 n ∧ 0 ≤ n ∧ n < 256 := fun v hv => by
    obtain ⟨i, hi, rfl⟩ := List.getElem_of_mem hv
    have ht := hx i (by omega)
    rw [h1, Nat.mul_one, List.drop_eq_getElem_cons hi, List.take_succ_cons, List.take_zero, List.getElem?_eq_getElem (show i < xs.length by omega)] at ht
    obtain ⟨n, e, _, hwf⟩ := DataW.trod_int Try.underlying5 ht
    simp at e
    exact ⟨n, e, wf_u8 hwf⟩
  exact ⟨⟨cs, hl, fun v hv => by obtain ⟨n, e, _⟩ := hb v hv; exact ⟨n, e⟩⟩, rfl, Sec.byte_of hb⟩
end
/-- The steps of a slice that came in: as many as it is long, and each is there. -/
theorem ops8_came2 {H : Type} {enc : TypeId × Value → H} {W : World} {v : Value} {d : DataW H} {p : List MemPlace} {len cap : Nat} {a : Option Addr} (h : DataW.Trod enc Try.prog W 0 (fun _ => true) true 58 v d p)
    (hv : v = .slice a len cap) : len ≤ maxLen ∧ ∃ ps : List OpP, ps.length = len ∧ CameOps8 W a ps ∧ ∀ p ∈ ps, p.o.s.Byte := by
  subst hv
  obtain ⟨fuel, hf⟩ := h
  have hC : Try.prog.cellsOf 68 = 136 := by kernel_rfl
  rcases open_slice Try.underlying58 hf with ⟨hcs, hx⟩ | ⟨ad, len', cap', m, n, D, Pl, hcs, _, hl, hm, hmm, hx, hi⟩
  · simp [Value.cells] at hcs
    obtain ⟨rfl, rfl, rfl⟩ := hcs
    exact ⟨Nat.zero_le _, [], rfl, ⟨fun _ h => absurd h (by simp), fun h => absurd h (by simp)⟩, fun _ h => absurd h (by simp)⟩
  · simp [Value.cells] at hcs
    obtain ⟨rfl, rfl, rfl⟩ := hcs
    simp only [if_true] at hmm
    subst hmm
    refine ⟨by omega, ?_⟩
    have hop : ∀ i, i < m → ∃ o : OpP, ((DM.CameInts W o.o.K o.o.keep ∧ o.o.keep.length ≤ maxLen ∧ o.Fits) ∧ o.o.s.Byte) ∧ ∀ j (hj : j < 136), W.cell? (ad.add (i * 136 + j)) = o.cells[j]? := by
      intro i him
      obtain ⟨cs', hc, ht⟩ := hi i him
      rw [hC] at hc
      obtain ⟨_, hcl, hat⟩ := World.cells?_some hc
      obtain ⟨ys, n', _, _, _, hyl, hfs⟩ := DataW.trod_struct Try.underlying68 ht
      have c3 : Try.prog.cellsOf 3 = 1 := by kernel_rfl
      have cS : Try.prog.cellsOf 34 = 64 := by kernel_rfl
      have cK : Try.prog.cellsOf 35 = 1 := by kernel_rfl
      have cE : Try.prog.cellsOf 66 = 68 := by kernel_rfl
      have one : ∀ k (hk : k < 136), (cs'.drop k).take 1 = [cs'[k]] := fun k hk => by
        rw [List.drop_eq_getElem_cons (by omega)]; rfl
      have f0 : DataW.trod enc Try.prog W 0 (fun _ => true) true n' 3 ((cs'.drop 0).take (Try.prog.cellsOf 3)) = ys[0]? := by have := hfs 0 _ rfl; exact this
      have f1 : DataW.trod enc Try.prog W 0 (fun _ => true) true n' 3 ((cs'.drop 1).take (Try.prog.cellsOf 3)) = ys[1]? := by have := hfs 1 _ rfl; exact this
      have f2 : DataW.trod enc Try.prog W 0 (fun _ => true) true n' 3 ((cs'.drop 2).take (Try.prog.cellsOf 3)) = ys[2]? := by have := hfs 2 _ rfl; exact this
      have f3 : DataW.trod enc Try.prog W 0 (fun _ => true) true n' 34 ((cs'.drop 3).take (Try.prog.cellsOf 34)) = ys[3]? := by have := hfs 3 _ rfl; exact this
      have f4 : DataW.trod enc Try.prog W 0 (fun _ => true) true n' 35 ((cs'.drop 67).take (Try.prog.cellsOf 35)) = ys[4]? := by have := hfs 4 _ rfl; exact this
      have f5 : DataW.trod enc Try.prog W 0 (fun _ => true) true n' 66 ((cs'.drop 68).take (Try.prog.cellsOf 66)) = ys[5]? := by have := hfs 5 _ rfl; exact this
      have hy6 : ys.length = 6 := hyl
      rw [c3, one 0 (by omega), List.getElem?_eq_getElem (show 0 < ys.length by omega)] at f0
      rw [c3, one 1 (by omega), List.getElem?_eq_getElem (show 1 < ys.length by omega)] at f1
      rw [c3, one 2 (by omega), List.getElem?_eq_getElem (show 2 < ys.length by omega)] at f2
      rw [cS, List.getElem?_eq_getElem (show 3 < ys.length by omega)] at f3
      rw [cK, one 67 (by omega), List.getElem?_eq_getElem (show 4 < ys.length by omega)] at f4
      rw [cE, List.getElem?_eq_getElem (show 5 < ys.length by omega)] at f5
      obtain ⟨z0, e0, _, _⟩ := DataW.trod_int Try.underlying3 f0
      obtain ⟨z1, e1, _, u1⟩ := DataW.trod_int Try.underlying3 f1
      obtain ⟨z2, e2, _, u2⟩ := DataW.trod_int Try.underlying3 f2
      obtain ⟨s, e3, hsb⟩ := sec_came2 f3
      obtain ⟨K, keep, kc, e4, hkl, hK⟩ := ints_came f4
      obtain ⟨ev, e5, hev⟩ := ev_came (by simp; omega) f5
      simp only [List.cons.injEq, and_true] at e0 e1 e2 e4
      refine ⟨⟨⟨z0, z1, z2, s, K, keep, kc⟩, ev⟩, ⟨⟨hK, hkl, ⟨u1, u2, hev⟩⟩, hsb⟩, fun j hj => ?_⟩
      have hcs : cs' = [cs'[0], cs'[1], cs'[2]] ++ (cs'.drop 3).take 64 ++ [cs'[67]] ++ (cs'.drop 68).take 68 := by
        have t1 : cs'.take 3 = [cs'[0], cs'[1], cs'[2]] := by
          rw [List.take_succ_eq_append_getElem (by omega), List.take_succ_eq_append_getElem (by omega), List.take_succ_eq_append_getElem (by omega), List.take_zero]; rfl
        have t3 : (cs'.drop 68).take 68 = cs'.drop 68 := List.take_of_length_le (by simp; omega)
        have t2 : cs'.drop 67 = [cs'[67]] ++ cs'.drop 68 := by
          rw [List.drop_eq_getElem_cons (by omega)]; rfl
        rw [← t1, t3]
        conv => lhs; rw [← List.take_append_drop 3 cs', ← List.take_append_drop 64 (cs'.drop 3), List.drop_drop, t2]
        simp only [List.append_assoc]
      have hcells : (⟨⟨z0, z1, z2, s, K, keep, kc⟩, ev⟩ : OpP).cells = cs' := by
        rw [hcs, e0, e1, e2, e3, e4, e5]
        rfl
      rw [hcells]
      have := hat j hj
      rw [← Go.Deep.add_add]
      exact this
    obtain ⟨f, hf'⟩ := choose_lt hop
    refine ⟨(List.range len).map f, by simp, ⟨fun o ho => ?_, fun hpos => ?_⟩, fun o ho => ?_⟩
    · obtain ⟨k, hk, rfl⟩ := List.mem_map.1 ho
      exact (hf' k (by have := List.mem_range.1 hk; omega)).1.1
    · simp only [List.length_map, List.length_range] at hpos
      obtain ⟨b, off, spot⟩ := ad
      have hc0 : W.cell? ((⟨b, off, spot⟩ : Addr).add (0 * 136 + 0)) = some (.int .i64 (f 0).o.kind) := ((hf' 0 (by omega)).2 0 (by omega)).trans rfl
      have hspot : spot = none := by simpa [Addr.add] using World.cell?_spot hc0
      subst hspot
      refine ⟨b, off, rfl, World.block_lt_of_cell? _ _ hc0, fun k hk j v hv => ?_⟩
      simp only [List.length_map, List.length_range] at hk
      have hj : j < 136 := by rw [← OpP.length]; exact (List.getElem?_eq_some_iff.1 hv).1
      have := (hf' k (by omega)).2 j hj
      simp only [add_plain] at this
      simp only [List.getElem_map, List.getElem_range] at hv
      rw [Nat.add_assoc, this, hv]
    · obtain ⟨k, hk, rfl⟩ := List.mem_map.1 ho
      exact (hf' k (by have := List.mem_range.1 hk; omega)).1.2
end Go.Proofs.Ytdinbhanekpjoaa

/-
  What PlanSpoilt says, in plain words: what a sector has is what was written there, with its mark by exclusive or.
-/
namespace Go.Proofs.Ytdinbhanekpjoaa
open Go.RowKit
/-- L: a zone's sectors; M: its marks; V: what was written there. -/
structure Ok1 (L : List Sec) (M : Int → Sec × Int) (V : List Sec) : Prop where
  len : V.length = L.length
  at_ : ∀ i (h : i < L.length) (h2 : i < V.length), L[i] = V[i].xor (M (i : Int)).1
  none_ : ∀ i : Int, (M i).2 = 0 → (M i).1 = Sec.zero
  past : ∀ i : Int, (L.length : Int) ≤ i → M i = (Sec.zero, 0)
/-- What the law makes of a zone's row: one sector more, or what is left. -/
def next (V : List Sec) (n : Nat) (s : Sec) : List Sec := (if V.length < n then V ++ [s] else V).take n
theorem next_same {V : List Sec} {n : Nat} (s : Sec) (h : V.length = n) : next V n s = V := by
  unfold next
  rw [if_neg (by omega), List.take_of_length_le (by omega)]
theorem next_more {V : List Sec} {n : Nat} (s : Sec) (h : n = V.length + 1) : next V n s = V ++ [s] := by
  unfold next
  rw [if_pos (by omega), List.take_of_length_le (by simp; omega)]
theorem next_less {V : List Sec} {n : Nat} (s : Sec) (h : n ≤ V.length) : next V n s = V.take n := by
  unfold next
  rw [if_neg (by omega)]
namespace Ok1
variable {L : List Sec} {M M' : Int → Sec × Int} {V : List Sec}
theorem append (h : Ok1 L M V) {s : Sec} (hs : s.Byte) (hM : ∀ i, M' i = if i = (L.length : Int) then (Sec.zero, 0) else M i) : Ok1 (L ++ [s]) M' (V ++ [s]) := by
  have hMM : M' = M := by
    funext i
    rw [hM]
    split
    · rename_i e
      rw [e]
      exact (h.past _ (Int.le_refl _)).symm
    · rfl
  rw [hMM]
  refine ⟨by simp [h.len], fun i h1 h2 => ?_, h.none_, fun i hi => h.past i (by simp at hi; omega)⟩
  by_cases hi : i < L.length
  · rw [List.getElem_append_left hi, List.getElem_append_left (by rw [h.len]; exact hi)]
    exact h.at_ i hi (by rw [h.len]; exact hi)
  · have e : i = L.length := by simp at h1; omega
    subst e
    have hV := h.len
    rw [List.getElem_append_right (Nat.le_refl _), List.getElem_append_right (by omega)]
    simp only [List.getElem_singleton]
    rw [h.past _ (Int.le_refl _)]
    exact hs.symm
theorem take (h : Ok1 L M V) {m : Nat} (hm : m ≤ L.length) {size : Int} (hsz : (L.length : Int) ≤ size) (hM : ∀ i, M' i = if (m : Int) ≤ i ∧ i < size then (Sec.zero, 0) else M i) : Ok1 (L.take m) M' (V.take m) := by
  have hV := h.len
  refine ⟨by simp; omega, fun i h1 h2 => ?_, fun i hi => ?_, fun i hi => ?_⟩
  · have h1' : i < m := by simp at h1; omega
    rw [List.getElem_take, List.getElem_take, hM, if_neg (by omega)]
    exact h.at_ i (by omega) (by omega)
  · rw [hM] at hi ⊢
    split
    · rfl
    · rename_i hn
      rw [if_neg hn] at hi
      exact h.none_ i hi
  · rw [hM]
    split
    · rfl
    · refine h.past i ?_
      simp at hi
      omega
theorem spoil (h : Ok1 L M V) {j : Nat} (hj : j < L.length) (p : Sec) (hc : 0 ≤ (M (j : Int)).2) (hM : ∀ i, M' i = if i = (j : Int) then ((M (j : Int)).1.xor p, (M (j : Int)).2 + 1) else M i) : Ok1 (L.set j (L[j].xor p)) M' V := by
  have hV := h.len
  refine ⟨by simpa using hV, fun i h1 h2 => ?_, fun i hi => ?_, fun i hi => ?_⟩
  · simp only [List.length_set] at h1
    rw [List.getElem_set, hM]
    by_cases e : j = i
    · subst e
      rw [if_pos rfl, if_pos rfl, h.at_ j hj (by omega), Sec.xor_assoc]
    · rw [if_neg e, if_neg (by omega)]
      exact h.at_ i h1 h2
  · rw [hM] at hi ⊢
    split
    · rename_i e
      rw [if_pos e] at hi
      simp only at hi
      omega
    · rename_i e
      rw [if_neg e] at hi
      exact h.none_ i hi
  · simp only [List.length_set] at hi
    rw [hM, if_neg (by omega)]
    exact h.past i hi
end Ok1
/-- A zone has room as its state says. -/
structure Zr (x : Zn Sec) : Prop where
  len : (x.L.length : Int) ≤ x.size
  room : x.state < 2 → (x.L.length : Int) < x.size
namespace Zr
variable {x : Zn Sec}
theorem append (h : Zr x) (s : Sec) (h4 : x.state ≤ 4) (hf : failedOf x.state = 0) (h2 : ¬ x.state = 2) : Zr (x.append s).1 := by
  have h34 : x.state ≠ 3 ∧ x.state ≠ 4 := ⟨fun e => (by rw [e] at hf; cases hf), fun e => (by rw [e] at hf; cases hf)⟩
  have hr := h.room (by omega)
  by_cases hl : ((x.L.length + 1 : Nat) : Int) = x.size
  · rw [Zn.append_last s hf h2 hl]
    exact ⟨by simp; omega, fun h => by simp at h⟩
  · rw [Zn.append_more s hf h2 hl]
    exact ⟨by simp; omega, fun _ => by simp; omega⟩
theorem fail (h : Zr x) (s : Int) : Zr (x.fail s) := by
  unfold Zn.fail
  split
  · rename_i hs
    exact ⟨h.len, fun h2 => by simp only at h2; omega⟩
  · exact h
theorem crash (h : Zr x) (k : Int) (hsf : x.safe ≤ x.L.length) : Zr (x.crash k) := by
  have hl := Zn.left_le k hsf
  have h1 := h.len
  refine ⟨?_, ?_⟩
  · unfold Zn.crash
    simp
    omega
  · unfold Zn.crash
    simp only
    intro h2
    split at h2
    · omega
    · split at h2
      · omega
      · rename_i hn
        have : ¬ ((x.left k : Nat) : Int) = x.size := fun e => hn (.inr e)
        simp
        omega
theorem reset (h : 1 ≤ x.size) : Zr x.reset.1 ∨ x.reset.1 = x := by
  unfold Zn.reset
  split
  · exact .inr rfl
  · exact .inl ⟨by simp; omega, fun _ => by simp; omega⟩
theorem finish (h : Zr x) : Zr x.finish.1 := by
  unfold Zn.finish
  split
  · exact h
  · exact ⟨h.len, fun h => by simp at h⟩
theorem flush (h : Zr x) : Zr x.flush := ⟨h.len, h.room⟩
end Zr
end Go.Proofs.Ytdinbhanekpjoaa

/-
  What PlanSpoilt says, kept by every step of a drive, in plain words.
-/
namespace Go.Proofs.Ytdinbhanekpjoaa
open Go.RowKit
namespace Dv
theorem append_cases (D : Dv) (z : Int) (s : Sec) : ((D.append z s).1.zs = D.zs ∧ (D.append z s).2.2 ≠ 0) ∨ ∃ (k : Nat) (x : Zn Sec), z = (k : Int) ∧ D.zs[k]? = some x ∧ failedOf x.state = 0 ∧ ¬ x.state = 2 ∧ (D.append z s).1.zs = D.zs.set k (x.append s).1 ∧ (D.append z s).2.1 = (x.L.length : Int) ∧ (D.append z s).2.2 = 0 := by
  by_cases hb : (D.begin_ z).2 = 0
  · obtain ⟨hd, k, rfl, hk⟩ := begin_zero hb
    by_cases ho : D.zs[k].state = 0 ∧ D.op ≤ (D.opened : Int)
    · rw [append_open s hd hk ho.1 ho.2]
      exact .inl ⟨rfl, show (33 : Int) ≠ 0 by decide⟩
    · rw [append_in s hd hk ho]
      by_cases hf : failedOf D.zs[k].state = 0
      · by_cases h2 : D.zs[k].state = 2
        · rw [Zn.append_full s hf h2]
          exact .inl ⟨by simp [Dv.put, Dv.tick], show (17 : Int) ≠ 0 by decide⟩
        · refine .inr ⟨k, D.zs[k], rfl, by simp [hk], hf, h2, rfl, ?_⟩
          by_cases hl : ((D.zs[k].L.length + 1 : Nat) : Int) = D.zs[k].size
          · rw [Zn.append_last s hf h2 hl]; exact ⟨rfl, rfl⟩
          · rw [Zn.append_more s hf h2 hl]; exact ⟨rfl, rfl⟩
      · rw [Zn.append_failed s hf]
        exact .inl ⟨by simp [Dv.put, Dv.tick], hf⟩
  · rw [append_no s hb]
    refine .inl ⟨?_, hb⟩
    rcases R7.begin_fst D z with e | e <;> rw [e]
    rfl
theorem answer_cases (D : Dv) (z : Int) (f : Zn Sec → Zn Sec × Int) : ((D.answer z f).1.zs = D.zs ∧ (D.answer z f).2 ≠ 0) ∨ ∃ (k : Nat) (x : Zn Sec), z = (k : Int) ∧ D.zs[k]? = some x ∧ (D.answer z f).1.zs = D.zs.set k (f x).1 ∧ (D.answer z f).2 = (f x).2 := by
  by_cases hb : (D.begin_ z).2 = 0
  · obtain ⟨hd, k, rfl, hk⟩ := begin_zero hb
    rw [answer_in f hd hk]
    exact .inr ⟨k, D.zs[k], rfl, by simp [hk], rfl, rfl⟩
  · rw [answer_no f hb]
    refine .inl ⟨?_, hb⟩
    rcases R7.begin_fst D z with e | e <;> rw [e]
    rfl
theorem read_zs (D : Dv) (z off : Int) : (D.read z off).1.zs = D.zs := by
  unfold read
  split
  · rcases R7.begin_fst D z with e | e <;> rw [e]
    rfl
  · split <;> rfl
end Dv
namespace Dr
/-- W z: what was written to zone z. -/
structure Spo (X : Dr) (W : Nat → List Sec) : Prop where
  cnt : ∀ z o, 0 ≤ (X.marks z o).2
  one : ∀ (z : Nat) x, X.D.zs[z]? = some x → Ok1 x.L (X.marks (z : Int)) (W z)
  room : ∀ x ∈ X.D.zs, Zr x
variable {X Y : Dr} {W : Nat → List Sec}
theorem Spo.same (h : X.Spo W) (hz : Y.D.zs = X.D.zs) (hm : Y.marks = X.marks) : Y.Spo W :=
  ⟨by rw [hm]; exact h.cnt, by rw [hz, hm]; exact h.one, by rw [hz]; exact h.room⟩
theorem Spo.set (h : X.Spo W) {k : Nat} {x x' : Zn Sec} (_ : X.D.zs[k]? = some x) (hz : Y.D.zs = X.D.zs.set k x') (hm : ∀ z o, z ≠ (k : Int) → Y.marks z o = X.marks z o) (hc : ∀ o, 0 ≤ (Y.marks (k : Int) o).2) {V : List Sec} (h1 : Ok1 x'.L (Y.marks (k : Int)) V) (hr : Zr x') : Y.Spo (fun z => if z = k then V else W z) := by
  refine ⟨fun z o => ?_, fun z y hy => ?_, fun y hy => ?_⟩
  · by_cases e : z = (k : Int)
    · rw [e]; exact hc o
    · rw [hm z o e]; exact h.cnt z o
  · rw [hz, List.getElem?_set] at hy
    by_cases e : k = z
    · subst e
      rw [if_pos rfl] at hy
      split at hy
      · cases hy
        rw [if_pos rfl]
        exact h1
      · cases hy
    · rw [if_neg e] at hy
      rw [if_neg (fun e' => e e'.symm)]
      have hmm : Y.marks (z : Int) = X.marks (z : Int) := by funext o; exact hm _ o (by omega)
      rw [hmm]
      exact h.one z y hy
  · rw [hz] at hy
    rcases List.mem_or_eq_of_mem_set hy with h2 | rfl
    · exact h.room y h2
    · exact hr
theorem Spo.congr {V : Nat → List Sec} (h : X.Spo W) (hV : ∀ z, V z = W z) : X.Spo V := by
  have : V = W := funext hV
  rw [this]
  exact h
theorem Spo.set' (h : X.Spo W) {k : Nat} {x x' : Zn Sec} (hx : X.D.zs[k]? = some x) (hz : Y.D.zs = X.D.zs.set k x') (hm : Y.marks = X.marks) (hL : x'.L = x.L) (hr : Zr x') : Y.Spo W := by
  refine (h.set hx hz (fun z o _ => by rw [hm]) (fun o => by rw [hm]; exact h.cnt _ o) (V := W k) ?_ hr).congr (fun z => ?_)
  · rw [hm, hL]; exact h.one k x hx
  · split
    · rename_i e; rw [e]
    · rfl
theorem Spo.happen (h : X.Spo W) (e : EvV) : (X.happen e).Spo W := by
  unfold Dr.happen
  split
  · have h' : (X.noted e).Spo W := h.same rfl rfl
    generalize X.noted e = Z at h'
    unfold Dr.spoil
    by_cases hz : e.zone < 0 ∨ (Z.D.zs.length : Int) ≤ e.zone
    · rw [Dv.spoil_out _ _ hz, if_neg (show ¬ (13 : Int) = 0 by decide)]
      exact h'.same rfl rfl
    · obtain ⟨k, hk⟩ := Int.eq_ofNat_of_zero_le (show 0 ≤ e.zone by omega)
      have hkl : k < Z.D.zs.length := by omega
      have hx : Z.D.zs[k]? = some Z.D.zs[k] := by simp [hkl]
      rw [hk, Dv.spoil_in _ _ hkl]
      by_cases ho : e.off < 0 ∨ (Z.D.zs[k].L.length : Int) ≤ e.off
      · rw [Zn.change_out _ _ ho, if_neg (show ¬ (31 : Int) = 0 by decide)]
        exact h'.same (by simp [Dv.put]) rfl
      · obtain ⟨j, hj⟩ := Int.eq_ofNat_of_zero_le (show 0 ≤ e.off by omega)
        have hjl : j < Z.D.zs[k].L.length := by omega
        rw [hj, Zn.change_in _ j hjl, if_pos rfl]
        have h1 := h'.one k _ hx
        have hr := h'.room _ (List.getElem_mem hkl)
        refine (h'.set hx rfl (fun z o hne => ?_) (fun o => ?_) (V := W k) (h1.spoil hjl e.p (h'.cnt _ _) (fun i => ?_)) ⟨by simpa using hr.len, fun h2 => by simpa using hr.room h2⟩).congr (fun z => ?_)
        · show Marks.upd _ _ _ _ z o = _
          unfold Marks.upd
          rw [if_neg (fun h => hne h.1)]
        · show 0 ≤ (Marks.upd _ _ _ _ (k : Int) o).2
          unfold Marks.upd
          split
          · have := h'.cnt (k : Int) (j : Int); show 0 ≤ _ + 1; omega
          · exact h'.cnt _ _
        · show Marks.upd _ _ _ _ (k : Int) i = _
          unfold Marks.upd
          simp only [true_and]
        · split
          · rename_i e; rw [e]
          · rfl
  have fl : ∀ s, ({ X.noted e with D := (X.D.fail e.zone s).1 } : Dr).Spo W := fun s => by
    by_cases hz : e.zone < 0 ∨ (X.D.zs.length : Int) ≤ e.zone
    · rw [Dv.fail_out _ hz]
      exact h.same rfl rfl
    · obtain ⟨k, hk⟩ := Int.eq_ofNat_of_zero_le (show 0 ≤ e.zone by omega)
      have hkl : k < X.D.zs.length := by omega
      rw [hk, Dv.fail_in _ hkl]
      refine h.set' (x := X.D.zs[k]) (by simp [hkl]) rfl rfl ?_ ((h.room _ (List.getElem_mem hkl)).fail s)
      unfold Zn.fail
      split <;> rfl
  split
  · exact fl 3
  split
  · exact fl 4
  split
  · exact h.same rfl rfl
  · exact h.same rfl rfl
theorem Spo.due (h : X.Spo W) : X.due.Spo W := due_ind (P := fun Y => Y.Spo W) X h (fun Z e l hZ _ _ _ => Spo.happen (X := { Z with coming := l }) (hZ.same rfl rfl) e)
theorem Spo.begin (h : X.Spo W) (z : Int) : (X.begin_ z).Spo W := by
  unfold begin_
  split
  · exact h.due
  · exact h
/-- A zone that was left alone. -/
theorem Spo.kept (h : X.Spo W) (s : Sec) : ∀ (z : Nat) x, X.D.zs[z]? = some x → W z = next (W z) x.L.length s := fun z x hx => (next_same s (h.one z x hx).len).symm
theorem revTo_at (M : Marks) (D : Dv) : ∀ (n : Nat) (k : Nat) (i : Int), revTo M D n (k : Int) i = if k < n ∧ D.lenOf (k : Int) ≤ i ∧ i < D.size then (Sec.zero, 0) else M (k : Int) i
  | 0, k, i => by rw [if_neg (by omega)]; rfl
  | n + 1, k, i => by
    rw [revTo]
    unfold Marks.forget
    by_cases e : k = n
    · subst e
      by_cases hc : D.lenOf (k : Int) ≤ i ∧ i < D.size
      · rw [if_pos ⟨rfl, hc.1, hc.2⟩, if_pos ⟨by omega, hc.1, hc.2⟩]
      · rw [if_neg (fun h => hc h.2), if_neg (fun h => hc h.2), revTo_at M D k k i, if_neg (fun h => hc h.2)]
    · rw [if_neg (fun h => e (by have := h.1; omega)), revTo_at M D n k i]
      by_cases hc : k < n ∧ D.lenOf (k : Int) ≤ i ∧ i < D.size
      · rw [if_pos hc, if_pos ⟨by omega, hc.2⟩]
      · rw [if_neg hc, if_neg (fun h => hc ⟨by omega, h.2⟩)]
theorem lenOf_at (D : Dv) {z : Nat} {x : Zn Sec} (hx : D.zs[z]? = some x) : D.lenOf (z : Int) = (x.L.length : Int) := by
  obtain ⟨h1, h2⟩ := List.getElem?_eq_some_iff.1 hx
  rw [Dv.lenOf_in h1, h2]
/-- Behind a step: what the law makes of its rows. -/
def Nexts (W V : Nat → List Sec) (s : Sec) (Y : Dr) : Prop := Y.Spo V ∧ ∀ (z : Nat) x, Y.D.zs[z]? = some x → V z = next (W z) x.L.length s
theorem Spo.nexts (h : Y.Spo W) (s : Sec) : Nexts W W s Y := ⟨h, h.kept s⟩
theorem Spo.append (h : X.Spo W) {m : Nat} (hg : X.D.Ok m) (z : Int) {s : Sec} (hs : s.Byte) : ∃ V, Nexts W V s ({ X with D := (X.D.append z s).1, marks := if (X.D.append z s).2.2 = 0 then X.marks.upd z (X.D.append z s).2.1 (Sec.zero, 0) else X.marks } : Dr) := by
  rcases Dv.append_cases X.D z s with ⟨h1, h2⟩ | ⟨k, x, rfl, hx, hf, h2, hz, ho, hc⟩
  · refine ⟨W, (h.same h1 ?_).nexts s⟩
    show (if _ then _ else _) = _
    rw [if_neg h2]
  · have hL : (x.append s).1.L = x.L ++ [s] := by
      by_cases hl : ((x.L.length + 1 : Nat) : Int) = x.size
      · rw [Zn.append_last s hf h2 hl]
      · rw [Zn.append_more s hf h2 hl]
    have h1 := h.one k x hx
    have hgx := hg.get hx
    have hsp := h.set (Y := { X with D := (X.D.append (k : Int) s).1, marks := if (X.D.append (k : Int) s).2.2 = 0 then X.marks.upd (k : Int) (X.D.append (k : Int) s).2.1 (Sec.zero, 0) else X.marks }) hx hz (fun z o hne => by
      show (if _ then Marks.upd _ _ _ _ else _) z o = _
      rw [if_pos hc]
      unfold Marks.upd
      rw [if_neg (fun h => hne h.1)]) (fun o => by
      show 0 ≤ ((if _ then Marks.upd _ _ _ _ else _) (k : Int) o).2
      rw [if_pos hc]
      unfold Marks.upd
      split
      · exact Int.le_refl _
      · exact h.cnt _ _) (V := W k ++ [s]) (by
      rw [hL]
      refine h1.append hs (fun i => ?_)
      show (if _ then Marks.upd _ _ _ _ else _) (k : Int) i = _
      rw [if_pos hc, ho]
      unfold Marks.upd
      simp only [true_and]) ((h.room x (List.mem_of_getElem? hx)).append s hgx.2.2.1 hf h2)
    refine ⟨_, hsp, fun z y hy => ?_⟩
    by_cases e : z = k
    · subst e
      rw [if_pos rfl]
      have hk := (List.getElem?_eq_some_iff.1 hx).1
      have hy2 : (X.D.zs.set z (x.append s).1)[z]? = some y := by rw [← hz]; exact hy
      rw [List.getElem?_set, if_pos rfl, if_pos hk] at hy2
      cases hy2
      rw [hL]
      refine (next_more s ?_).symm
      rw [h1.len]
      simp
    · rw [if_neg e]
      have := hsp.one z y hy
      rw [if_neg e] at this
      exact (next_same s this.len).symm
theorem Spo.reset (h : X.Spo W) {m : Nat} (hg : X.D.Ok m) (h1 : 1 ≤ X.D.size) (z : Int) (s : Sec) : ∃ V, Nexts W V s ({ X with D := (X.D.reset z).1, marks := if (X.D.reset z).2 = 0 then X.marks.forget X.D.size z 0 else X.marks } : Dr) := by
  unfold Dv.reset
  rcases Dv.answer_cases X.D z Zn.reset with ⟨h2, h3⟩ | ⟨k, x, rfl, hx, hz, hc⟩
  · refine ⟨W, (h.same h2 ?_).nexts s⟩
    show (if _ then _ else _) = _
    rw [if_neg h3]
  · by_cases hf : failedOf x.state = 0
    · have hgx := hg.get hx
      have ho := h.one k x hx
      have hr := h.room x (List.mem_of_getElem? hx)
      have h0 : (X.D.answer (k : Int) Zn.reset).2 = 0 := by rw [hc, Zn.reset_ok hf]
      have hL : x.reset.1.L = [] := by rw [Zn.reset_ok hf]
      have hsp := h.set (Y := { X with D := (X.D.answer (k : Int) Zn.reset).1, marks := if (X.D.answer (k : Int) Zn.reset).2 = 0 then X.marks.forget X.D.size (k : Int) 0 else X.marks }) hx hz (fun z o hne => by
        show (if _ then Marks.forget _ _ _ _ else _) z o = _
        rw [if_pos h0]
        unfold Marks.forget
        rw [if_neg (fun h => hne h.1)]) (fun o => by
        show 0 ≤ ((if _ then Marks.forget _ _ _ _ else _) (k : Int) o).2
        rw [if_pos h0]
        unfold Marks.forget
        split
        · exact Int.le_refl _
        · exact h.cnt _ _) (V := (W k).take 0) (by
        rw [hL, show ([] : List Sec) = x.L.take 0 from rfl]
        refine ho.take (Nat.zero_le _) (size := X.D.size) (by rw [← hgx.2.2.2]; exact hr.len) (fun i => ?_)
        show (if _ then Marks.forget _ _ _ _ else _) (k : Int) i = _
        rw [if_pos h0]
        unfold Marks.forget
        simp only [true_and]
        rfl) (by
        rcases Zr.reset (x := x) (by rw [hgx.2.2.2]; exact h1) with h | e
        · exact h
        · rw [e]; exact hr)
      refine ⟨_, hsp, fun z y hy => ?_⟩
      by_cases e : z = k
      · subst e
        rw [if_pos rfl]
        have hk := (List.getElem?_eq_some_iff.1 hx).1
        have hy2 : (X.D.zs.set z x.reset.1)[z]? = some y := by rw [← hz]; exact hy
        rw [List.getElem?_set, if_pos rfl, if_pos hk] at hy2
        cases hy2
        rw [hL]
        exact (next_less s (Nat.zero_le _)).symm
      · rw [if_neg e]
        have := hsp.one z y hy
        rw [if_neg e] at this
        exact (next_same s this.len).symm
    · have hne : ¬ (X.D.answer (k : Int) Zn.reset).2 = 0 := by rw [hc, Zn.reset_failed hf]; exact hf
      refine ⟨W, (h.set' hx hz ?_ (by rw [Zn.reset_failed hf]) (by rw [Zn.reset_failed hf]; exact h.room x (List.mem_of_getElem? hx))).nexts s⟩
      show (if _ then _ else _) = _
      rw [if_neg hne]
theorem Spo.finish (h : X.Spo W) (z : Int) (s : Sec) : Nexts W W s ({ X with D := (X.D.finish z).1 } : Dr) := by
  unfold Dv.finish
  rcases Dv.answer_cases X.D z Zn.finish with ⟨h2, _⟩ | ⟨k, x, rfl, hx, hz, _⟩
  · refine Spo.nexts ?_ s
    exact h.same h2 rfl
  · refine Spo.nexts ?_ s
    refine h.set' hx hz rfl ?_ (h.room x (List.mem_of_getElem? hx)).finish
    unfold Zn.finish
    split <;> rfl
/-- Every zone takes a step. -/
theorem Spo.map (_ : X.Spo W) {f : Nat → Zn Sec → Zn Sec} (hz : Y.D.zs = X.D.zs.mapIdx f) (hc : ∀ z o, 0 ≤ (Y.marks z o).2) {V : Nat → List Sec} (h1 : ∀ (z : Nat) x, X.D.zs[z]? = some x → Ok1 (f z x).L (Y.marks (z : Int)) (V z) ∧ Zr (f z x)) : Y.Spo V := by
  refine ⟨hc, fun z y hy => ?_, fun y hy => ?_⟩
  · rw [hz, List.getElem?_mapIdx] at hy
    obtain ⟨x, hx, rfl⟩ := Option.map_eq_some_iff.1 hy
    exact (h1 z x hx).1
  · rw [hz] at hy
    obtain ⟨z, hzl, rfl⟩ := List.getElem_of_mem hy
    simp only [List.getElem_mapIdx]
    exact (h1 z _ (List.getElem?_eq_getElem (by simpa using hzl))).2
theorem Spo.flush (h : X.Spo W) (s : Sec) : Nexts W W s ({ X with D := X.D.flush.1 } : Dr) := by
  unfold Dv.flush
  split
  · exact (h.same rfl rfl).nexts s
  · refine (h.map (Y := { X with D := (X.D.tick.mapTo (fun _ z => z.flush) X.D.zs.length) }) (f := fun i z => if i < X.D.zs.length then z.flush else z) rfl h.cnt (fun z x hx => ?_)).nexts s
    have hz := (List.getElem?_eq_some_iff.1 hx).1
    rw [if_pos hz]
    exact ⟨h.one z x hx, (h.room x (List.mem_of_getElem? hx)).flush⟩
theorem revTo_cnt (D : Dv) {M : Marks} (h : ∀ z o, 0 ≤ (M z o).2) : ∀ n z o, 0 ≤ (revTo M D n z o).2
  | 0 => h
  | n + 1 => fun z o => by
    rw [revTo]
    unfold Marks.forget
    split
    · exact Int.le_refl _
    · exact revTo_cnt D h n z o
theorem Spo.revive (h : X.Spo W) {m : Nat} (hg : X.D.Ok m) (keep : List Int) (s : Sec) : ∃ V, Nexts W V s (X.revive keep) := by
  unfold Dr.revive
  by_cases hd : X.D.down = true
  · rw [Dv.revive_down keep hd]
    have hlen : (X.D.mapTo (fun i z => z.crash (Dv.kept keep i)) X.D.zs.length).zs.length = X.D.zs.length := Dv.mapTo_length _ _ _
    have hsp := h.map (Y := { X with D := { X.D.mapTo (fun i z => z.crash (Dv.kept keep i)) X.D.zs.length with down := false }, marks := revTo X.marks { X.D.mapTo (fun i z => z.crash (Dv.kept keep i)) X.D.zs.length with down := false } (X.D.mapTo (fun i z => z.crash (Dv.kept keep i)) X.D.zs.length).zs.length })
      (f := fun i z => if i < X.D.zs.length then z.crash (Dv.kept keep i) else z) rfl (revTo_cnt _ h.cnt _) (V := fun z => (W z).take ((X.D.zs[z]?.map fun x => x.left (Dv.kept keep z)).getD 0)) (fun z x hx => by
        have hz := (List.getElem?_eq_some_iff.1 hx).1
        have hgx := hg.get hx
        have hr := h.room x (List.mem_of_getElem? hx)
        have hl := Zn.left_le (Dv.kept keep z) hgx.2.1
        rw [if_pos hz]
        simp only [hx, Option.map_some, Option.getD_some]
        refine ⟨?_, hr.crash _ hgx.2.1⟩
        have hcl : (x.crash (Dv.kept keep z)).L = x.L.take (x.left (Dv.kept keep z)) := rfl
        rw [hcl]
        have hat : ({ X.D.mapTo (fun i z => z.crash (Dv.kept keep i)) X.D.zs.length with down := false } : Dv).zs[z]? = some (x.crash (Dv.kept keep z)) := by
          show (X.D.zs.mapIdx _)[z]? = _
          rw [List.getElem?_mapIdx, hx]
          simp only [Option.map_some, if_pos hz]
        refine (h.one z x hx).take hl (size := X.D.size) (by rw [← hgx.2.2.2]; exact hr.len) (fun i => ?_)
        show revTo _ _ _ (z : Int) i = _
        rw [revTo_at, lenOf_at _ hat, hcl, hlen]
        have e : ((x.L.take (x.left (Dv.kept keep z))).length : Int) = (x.left (Dv.kept keep z) : Int) := by rw [List.length_take]; omega
        rw [e]
        by_cases hc : ((x.left (Dv.kept keep z) : Nat) : Int) ≤ i ∧ i < X.D.size
        · rw [if_pos hc, if_pos ⟨hz, hc⟩]
        · rw [if_neg hc, if_neg (fun h => hc h.2)])
    refine ⟨_, hsp, fun z y hy => ?_⟩
    have hy2 : (X.D.zs.mapIdx fun i z => if i < X.D.zs.length then z.crash (Dv.kept keep i) else z)[z]? = some y := hy
    rw [List.getElem?_mapIdx] at hy2
    obtain ⟨x, hx, rfl⟩ := Option.map_eq_some_iff.1 hy2
    have hz := (List.getElem?_eq_some_iff.1 hx).1
    have hgx := hg.get hx
    have hl := Zn.left_le (Dv.kept keep z) hgx.2.1
    simp only [if_pos hz, hx, Option.map_some, Option.getD_some]
    have hcl : (x.crash (Dv.kept keep z)).L.length = x.left (Dv.kept keep z) := by
      show (x.L.take _).length = _
      rw [List.length_take]; omega
    rw [hcl]
    exact (next_less s (by rw [(h.one z x hx).len]; exact hl)).symm
  · rw [Dv.revive_up keep hd]
    refine ⟨W, Spo.nexts ?_ s⟩
    refine ⟨revTo_cnt _ h.cnt _, fun z x hx => ?_, h.room⟩
    have hx' : X.D.zs[z]? = some x := hx
    have hz := (List.getElem?_eq_some_iff.1 hx').1
    have hgx := hg.get hx'
    have hr := h.room x (List.mem_of_getElem? hx')
    have h1 := h.one z x hx'
    have := h1.take (M' := revTo X.marks X.D X.D.zs.length (z : Int)) (Nat.le_refl _) (size := X.D.size) (by rw [← hgx.2.2.2]; exact hr.len) (fun i => by
      rw [revTo_at, lenOf_at _ hx']
      by_cases hc : ((x.L.length : Nat) : Int) ≤ i ∧ i < X.D.size
      · rw [if_pos hc, if_pos ⟨hz, hc⟩]
      · rw [if_neg hc, if_neg (fun h => hc h.2)])
    rw [List.take_length, ← h1.len, List.take_length] at this
    exact this
theorem Spo.play (h : X.Spo W) {m : Nat} (hg : X.Good m) (hm : m < 200) (h1 : 1 ≤ X.D.size) {p : OpP} (hp : p.o.s.Byte) : ∃ V, Nexts W V p.o.s (X.play p) := by
  obtain ⟨hb, hbl, -⟩ := hg.begin hm p.o.zone
  have hB := h.begin p.o.zone
  unfold Dr.play
  split
  · exact hB.append hb.ok p.o.zone hp
  split
  · refine ⟨W, Spo.nexts ?_ _⟩
    exact hB.same (Dv.read_zs _ _ _) rfl
  split
  · exact hB.reset hb.ok (by rw [hbl.size]; exact h1) p.o.zone _
  split
  · exact ⟨W, hB.finish p.o.zone _⟩
  split
  · exact ⟨W, h.due.flush _⟩
  split
  · exact h.revive hg.ok _ _
  split
  · obtain ⟨e1, -, e3⟩ := plan_D X p.e
    refine ⟨W, Spo.nexts ?_ _⟩
    exact h.same (by rw [e1]) e3
  split
  · obtain ⟨e1, -, e3⟩ := planN_D X p.e (times p.o.off)
    refine ⟨W, Spo.nexts ?_ _⟩
    exact h.same (by rw [e1]) e3
  · exact ⟨W, h.nexts _⟩
theorem Spo.made (k : Nat) (size op : Int) (h1 : 1 ≤ size) : (DV.Dr.made k size op).Spo (fun _ => []) := by
  have hx : ∀ x ∈ (DV.Dr.made k size op).D.zs, x = Zn.new size := fun x hx => List.eq_of_mem_replicate (show x ∈ List.replicate k (Zn.new size) from hx)
  refine ⟨fun _ _ => Int.le_refl _, fun z x hz => ?_, fun x h => ?_⟩
  · rw [hx x (List.mem_of_getElem? hz)]
    exact ⟨rfl, fun i h => absurd h (by simp [Zn.new]), fun _ _ => rfl, fun _ _ => rfl⟩
  · rw [hx x h]
    exact ⟨by simp [Zn.new]; omega, fun _ => by simp [Zn.new]; omega⟩
end Dr
end Go.Proofs.Ytdinbhanekpjoaa

/-
  Zero events and sectors, built out of nothing; an operation that is wanted, in a list of operations.
-/
namespace Go.Proofs.Ytdinbhanekpjoaa
open Go.RowKit
theorem wpList_wanted {P : Program} {ops : Array Oper} {rest : List Oper} {o : Oper} {a : Act} {w : World} {Q : Exit → Act → World → Prop} (hw : Region.wanted o (yielded ops a.tmps) = true) {v : Value} (hv : (execOp a.eval o).run P w = .ok (.value v) w)
    (h : wpList P ops Q rest (a.put o.dst v) w) : wpList P ops Q (o :: rest) a w := by
  unfold wpList
  rw [if_pos hw]
  left
  unfold Oper.wp
  rw [hv]
  exact h
theorem wpList_stepG {P : Program} {ops : Array Oper} {rest : List Oper} {o : Oper} {a : Act} {w : World} {Q : Exit → Act → World → Prop} (hw : Region.wanted o (yielded ops a.tmps) = true) {v : Value} (hv : (execOp a.eval o).run P w = .ok (.value v) w)
    (h : ∀ K : Act → Prop, (∀ a, wpList P ops Q rest a w → K a) → K (a.put o.dst v)) : wpList P ops Q (o :: rest) a w :=
  wpList_wanted hw hv (h _ (fun _ h => h))
theorem run_build_ev0 (w : World) : (Instr.build 66 #[]).run Try.prog w = .ok (.agg EvV.zero.cells.toArray) w :=
  run_build w _ _ _ (by kernel_rfl)
theorem run_build_sec0 (w : World) : (Instr.build 34 #[]).run Try.prog w = .ok (.agg Sec.zero.cs.toArray) w :=
  run_build w _ _ _ (by kernel_rfl)
theorem run_field_ev0 (w : World) : (Instr.field 66 (.agg EvV.zero.cells.toArray) 4).run Try.prog w = .ok (.agg Sec.zero.cs.toArray) w := by
  kernel_rfl
theorem exec_build_ev0 {w : World} {a : Act} {o : Oper} (ho : o.op = .build 66 #[]) : (execOp a.eval o).run Try.prog w = .ok (.value (.agg EvV.zero.cells.toArray)) w := by
  unfold execOp
  simp only [ho, List.map_toArray, List.map_nil, Sem.run_bind, run_build_ev0 w, Result.andThen_ok, Sem.run_pure]
theorem exec_build_sec0 {w : World} {a : Act} {o : Oper} (ho : o.op = .build 34 #[]) : (execOp a.eval o).run Try.prog w = .ok (.value (.agg Sec.zero.cs.toArray)) w := by
  unfold execOp
  simp only [ho, List.map_toArray, List.map_nil, Sem.run_bind, run_build_sec0 w, Result.andThen_ok, Sem.run_pure]
theorem exec_field_ev0 {w : World} {a : Act} {o : Oper} {x : Operand} (ho : o.op = .field 66 x 4) (hx : a.eval x = .agg EvV.zero.cells.toArray) : (execOp a.eval o).run Try.prog w = .ok (.value (.agg Sec.zero.cs.toArray)) w := by
  unfold execOp
  simp only [ho, hx, Sem.run_bind, run_field_ev0 w, Result.andThen_ok, Sem.run_pure]
theorem exec_load_row {P : Program} {w : World} {a : Act} {o : Oper} (ty : TypeId) (x : Operand) (ho : o.op = .load ty x) (b off : Nat) (hx : a.eval x = .pointer (some ⟨b, off, none⟩)) (cs : List Value) (d : TypeDesc)
    (hr : w.rangeAt b off cs) (hu : P.underlying ty = some d) (hd : d.isRow = true) (hi : (P.info? ty).map (·.size) = some cs.length) : (execOp a.eval o).run P w = .ok (.value (.agg cs.toArray)) w := by
  simp only [execOp, ho, hx, Sem.run_bind, run_loadAt_mid w b off ty cs d hr hu hd hi, Result.andThen_ok, Sem.run_pure]
end Go.Proofs.Ytdinbhanekpjoaa

/-
  A region that draws its order and holds no call of a function of the text's own, inside a fence, in a round too: what is shown of it by the plain walk holds there. Nothing here speaks of the program.
-/
namespace Go.Proofs.Ytdinbhanekpjoaa.InRound
open Go

section
variable {P : Program} {F : Fence} {n : Nat}
/-- An operation that calls nothing and defers nothing. -/
def plainB (o : Oper) : Bool :=
  match o.op with
  | .move _ | .assign _ | .pick _ _ _ | .load _ _ | .store _ _ _ | .binOp _ _ _ _ _ | .unOp _ _ _ | .fieldAddr _ _ _ | .indexAddr _ _ _ => true
  | .call { callee := .builtin .len, args := _, argTypes := _ } => true
  | _ => false

theorem run_value {s : Sem Value} {w : World} : (∃ v w', (do pure (Next.value (← s)) : Sem Next).run P w = .ok (.value v) w') ∨ (∃ h w', (do pure (Next.value (← s)) : Sem Next).run P w = .halt h w') := by
  cases hs : s.run P w with
  | ok v w' => exact .inl ⟨v, w', by simp [hs, Result.andThen]⟩
  | halt h w' => exact .inr ⟨h, w', by simp [hs, Result.andThen]⟩
theorem run_unit {s : Sem Unit} {w : World} : (∃ w', (do s; pure Next.skip : Sem Next).run P w = .ok .skip w') ∨ (∃ h w', (do s; pure Next.skip : Sem Next).run P w = .halt h w') := by
  cases hs : s.run P w with
  | ok v w' => exact .inl ⟨w', by simp [hs, Result.andThen]⟩
  | halt h w' => exact .inr ⟨h, w', by simp [hs, Result.andThen]⟩

/-- What a plain operation comes to. -/
theorem exec_plain {o : Oper} (h : plainB o = true) (ρ : Operand → Value) (w : World) :
    (∃ v w', (execOp ρ o).run P w = .ok (.value v) w') ∨ (∃ w', (execOp ρ o).run P w = .ok .skip w') ∨ (∃ h w', (execOp ρ o).run P w = .halt h w') := by
  unfold plainB at h
  have up : ∀ {s : Sem Next}, ((∃ v w', s.run P w = .ok (.value v) w') ∨ (∃ h w', s.run P w = .halt h w')) → (∃ v w', s.run P w = .ok (.value v) w') ∨ (∃ w', s.run P w = .ok .skip w') ∨ (∃ h w', s.run P w = .halt h w') := fun h => h.imp id .inr
  unfold execOp
  split at h <;> rename_i ho <;> simp only [ho]
  · exact .inl ⟨_, _, rfl⟩
  · exact .inl ⟨_, _, rfl⟩
  · exact up (by
      rename_i c a b
      cases hs : (asBool (ρ c)).run P w with
      | ok v w' => exact .inl ⟨if v = true then ρ a else ρ b, w', by simp only [Sem.run_bind, hs, Result.andThen, Sem.run_pure]⟩
      | halt h w' => exact .inr ⟨h, w', by simp only [Sem.run_bind, hs, Result.andThen]⟩)
  · exact up run_value
  · exact .inr (run_unit.imp id id)
  · exact up run_value
  · exact up run_value
  · exact up run_value
  · exact up run_value
  · simp only [resolve, invoke, builtin, Sem.run_bind, Sem.run_pure, Result.andThen_ok]
    generalize Sem.run P (Builtin.len_ _ _ _) w = r
    cases r with
    | ok v w' => exact .inl ⟨v, w', rfl⟩
    | halt h w' => exact .inr (.inr ⟨h, w', rfl⟩)
  · cases h

theorem about_plain {o : Oper} (h : plainB o = true) (w : World) (ρ : Operand → Value) : ∀ f, o.about P w ρ = some f → F.fn f := by
  intro f hf
  unfold plainB at h
  split at h <;> rename_i ho <;> simp [Oper.about, ho, resolve, Target.leads] at hf h
theorem noDefer_plain {o : Oper} (h : plainB o = true) : ∀ c, o.op ≠ .defer c := by
  intro c hc
  unfold plainB at h
  rw [hc] at h
  cases h

/-- Only the way on. -/
def Only (Q : Exit → Act → World → Prop) : Exit → Act → World → Prop
  | .normal, a, w => Q .normal a w
  | _, _, _ => False
theorem Only.normal {Q : Exit → Act → World → Prop} {a : Act} {w : World} (h : Q .normal a w) : Only Q .normal a w := h

theorem wpIn_of_wp {o : Oper} (h : plainB o = true) {a : Act} {w : World} {K K' : Act → World → Prop} {Q : Exit → Act → World → Prop} (hK : ∀ a w, K a w → K' a w) (hw : o.wp P a w K (Only Q)) : o.wpIn F n P a w K' Q := by
  refine ⟨about_plain h w a.eval, ?_⟩
  rw [Oper.semAt_eq _ _ _ (noDefer_plain h)]
  unfold Oper.wp at hw
  rcases exec_plain (P := P) h a.eval w with ⟨v, w', e⟩ | ⟨w', e⟩ | ⟨x, w', e⟩
  · rw [e] at hw ⊢; exact hK _ _ hw
  · rw [e] at hw ⊢; exact hK _ _ hw
  · rw [e] at hw ⊢
    cases x <;> first | exact hw.elim | (simp only [Oper.upon, Only] at hw)

theorem opsIn_of_ops {ops : Array Oper} {Q : Exit → Act → World → Prop} (hp : ops.all plainB = true) : ∀ (l : List Nat) (a : Act) (w : World), wpOps P ops (Only Q) l a w → wpOpsIn F n P ops Q l a w
  | [], _, _, h => h
  | i :: rest, a, w, h => by
    unfold wpOps at h
    unfold wpOpsIn
    cases ho : ops[i]? with
    | none => simp only [ho] at h ⊢; exact opsIn_of_ops hp rest a w h
    | some o =>
      simp only [ho] at h ⊢
      have hpo : plainB o = true := (Array.all_eq_true_iff_forall_mem.1 hp) o (Array.mem_of_getElem? ho)
      by_cases hw : Region.wanted o (yielded ops a.tmps) = true
      · rw [if_pos hw] at h ⊢
        rcases h with h | ⟨_, a', w', h⟩
        · exact wpIn_of_wp hpo (fun a w h => opsIn_of_ops hp rest a w h) h
        · exact h.elim
      · rw [if_neg hw] at h ⊢
        exact ⟨about_plain hpo w a.eval, opsIn_of_ops hp rest _ w h⟩

end
end Go.Proofs.Ytdinbhanekpjoaa.InRound
namespace Go.Proofs.Ytdinbhanekpjoaa.Reg
open Go
section
variable {P : Program} {Q : Exit → Act → World → Prop}
theorem any_of_reads {a : Act} {w : World} {l : List Oper} (S : World → Prop) (n m : Nat) (_hf : P.follows .mixedOrders = true) (hB : readsB l.toArray n m = true)
    (hQ : ∀ c a d v w, Q (.panic c) (a.put d v) w → Q (.panic c) a w) (hS : S { w with drawn := w.drawn + 1 })
    (h : wpReads P l.toArray S (fun a' => wpTail P l.toArray Q S m (l.drop n) n a' { w with drawn := w.drawn + 1 }) (l.take n) a) : wpAny P .any l.toArray Q l.toArray.size (Array.replicate l.toArray.size false) a { w with drawn := w.drawn + 1 } := by
  simp only [readsB, Bool.and_eq_true, decide_eq_true_eq] at hB
  obtain ⟨⟨⟨⟨⟨hsel, hnm⟩, hm⟩, hs⟩, hc⟩, hlex⟩ := hB
  have hml : m < l.length := by simpa using hm
  have htl : (l.take n).length = n := by simp; omega
  have hdl : (l.drop n).length = l.toArray.size - n := by simp
  have inv0 : HeadInv .any l.toArray m (Array.replicate l.toArray.size false) :=
    ⟨by simp, fun j oj _ hl => (by rw [getD_replicate_false] at hl; cases hl), fun t _ ht => getD_in (by simpa using ht) (getD_replicate_false _ _)⟩
  refine (wpAny_of_R (S := S) (m := m) _ _ _ _ ?_)
  have H := wpAnyR_lex (md := .any) (n := n) (g := l.toArray.size - n) hsel hs hc hm hnm hQ hS (T := fun a' => wpTail P l.toArray Q S m (l.drop n) n a' { w with drawn := w.drawn + 1 })
    (fun listed a hb ht => by rw [← hdl] at hb ⊢; exact wpAnyR_seq (l.drop n) n listed a _ (fun j => by simp [List.getElem?_drop]) hb ht)
    (l.take n) 0 (Array.replicate l.toArray.size false) a (fun j hj => by
      have hj' : j < n := by rw [htl] at hj; exact hj
      simp [hj']) (by simpa using htl) inv0 (by rw [htl]; exact hlex) h
  have e : (l.take n).length + (l.toArray.size - n) = l.toArray.size := by rw [htl]; simp; omega
  rwa [e] at H

end
end Go.Proofs.Ytdinbhanekpjoaa.Reg
namespace Go.Proofs.Ytdinbhanekpjoaa.InRound
open Go
section
variable {P : Program} {F : Fence} {n : Nat}
/-- A guarded operation that reads whole cells. -/
theorem wpReads_loadG {ops : Array Oper} {S : World → Prop} {T : Act → Prop} {a : Act} {o : Oper} {rest : List Oper} (hw : Region.wanted o (yielded ops a.tmps) = true) (ty : TypeId) (x : Operand) (ho : o.op = .load ty x) (b off : Nat) (hx : a.eval x = .pointer (some ⟨b, off, none⟩)) (cs : List Value) (d : TypeDesc)
    (hS : ∀ w, S w → w.rangeAt b off cs) (hu : P.underlying ty = some d) (hd : d.isRow = true) (hi : (P.info? ty).map (·.size) = some cs.length) (h : ∀ K : Act → Prop, (∀ a, Reg.wpReads P ops S T rest a → K a) → K (a.put o.dst (.agg cs.toArray))) : Reg.wpReads P ops S T (o :: rest) a :=
  Reg.wpReads_stepG hw (fun w hw => by
    simp only [execOp, ho, hx, Sem.run_bind, run_loadAt_mid w b off ty cs d (hS w hw) hu hd hi, Result.andThen_ok, Sem.run_pure]) h
/-- A guarded operation that is not wanted. -/
theorem wpReads_skip {ops : Array Oper} {S : World → Prop} {T : Act → Prop} {a : Act} {o : Oper} {rest : List Oper} (hw : Region.wanted o (yielded ops a.tmps) = false) (h : ∀ K : Act → Prop, (∀ a, Reg.wpReads P ops S T rest a → K a) → K (a.put o.dst undef)) : Reg.wpReads P ops S T (o :: rest) a :=
  ⟨undef, .inr ⟨hw, rfl⟩, h _ (fun _ h => h)⟩
/-- Reg.wp_region_reads in a fence. -/
theorem wpIn_region_reads {id : Nat} {a : Act} {w : World} {l : List Oper} {Q : Exit → Act → World → Prop} (S : World → Prop) (k m : Nat) (hf : P.follows .mixedOrders = true) (hp : l.toArray.all plainB = true) (hB : Reg.readsB l.toArray k m = true) (hS : S w.drew)
    (h : Reg.wpReads P l.toArray S (fun a' => Reg.wpTail P l.toArray (Only Q) S m (l.drop k) k a' w.drew) (l.take k) a) : (Code.region id l.toArray true).wpIn F n P Q a w := by
  refine wpIn_region_draw fun t => ?_
  simp only [Region.schedule, hf, Bool.true_or, if_true]
  exact opsIn_of_ops hp _ _ _ (wpAny_sound l.toArray.size t _ a _ (Reg.any_of_reads S k m hf hB (fun _ _ _ _ _ h => h.elim) hS h))
end
end Go.Proofs.Ytdinbhanekpjoaa.InRound

/-
  A region that draws its order and may hold calls, in a round of a loop over an iterator under the wide fence: what the laws of plain walks show of it holds there. Nothing here speaks of the program.
-/
namespace Go.Proofs.Ytdinbhanekpjoaa.InRound
open Go

section
variable {P : Program} {n l : Nat}
/-- An operation that defers nothing. -/
def lastsB (o : Oper) : Bool :=
  match o.op with
  | .defer _ => false
  | _ => true
theorem noDefer_lasts {o : Oper} (h : lastsB o = true) : ∀ c, o.op ≠ .defer c := by
  intro c hc
  unfold lastsB at h
  rw [hc] at h
  cases h
theorem rowsIn_of_rows {row : String} {args : Array Value} {w : World} {R : Value → World → Prop} (h : Rows P row args w R) : RowsIn (Fence.wide.inRound l) n P row args w R :=
  fun c cs _ => let ⟨v, w', r, s⟩ := h c cs; ⟨v, w', r, stepsIn_wide.2 s⟩
theorem uponIn_of_upon {o : Oper} {a : Act} {K K' : Act → World → Prop} {Q : Exit → Act → World → Prop} (hK : ∀ a w, K a w → K' a w) {r : Result Next} (h : o.upon P a K (Only Q) r) : o.uponIn (Fence.wide.inRound l) n P a K' Q r := by
  cases r with
  | ok x w' =>
    cases x with
    | value v => exact hK _ _ h
    | skip => exact hK _ _ h
    | defer d => exact hK _ _ h
    | enter f args =>
      refine ⟨fun h => by simp [Fence.wide] at h, ?_⟩
      refine CallsIn.inRound l (CallsIn.mono ((callsIn_wide (n := n - 1)).2 h) ?_)
      rintro e w'' h'
      cases e with
      | returned v => exact hK _ _ h'
      | panicked c => exact h'.elim
      | outgrown => obtain ⟨_, _, h⟩ := h'; exact h.elim
    | row row args =>
      refine ⟨fun h => by simp [Fence.wide] at h, ?_⟩
      exact RowsIn.mono (rowsIn_of_rows h) (fun v w h => hK _ _ h)
    | round _ _ _ _ _ => exact h.elim
    | _ => exact h.elim
  | halt x w' =>
    cases x <;> exact h.elim
theorem wpIn_of_wp2 {o : Oper} (h : lastsB o = true) {a : Act} {w : World} {K K' : Act → World → Prop} {Q : Exit → Act → World → Prop} (hK : ∀ a w, K a w → K' a w) (hw : o.wp P a w K (Only Q)) : o.wpIn (Fence.wide.inRound l) n P a w K' Q := by
  refine ⟨fun _ _ => trivial, ?_⟩
  rw [Oper.semAt_eq _ _ _ (noDefer_lasts h)]
  exact uponIn_of_upon hK hw
theorem opsIn_of_ops2 {ops : Array Oper} {Q : Exit → Act → World → Prop} (hp : ops.all lastsB = true) : ∀ (l' : List Nat) (a : Act) (w : World), wpOps P ops (Only Q) l' a w → wpOpsIn (Fence.wide.inRound l) n P ops Q l' a w
  | [], _, _, h => h
  | i :: rest, a, w, h => by
    unfold wpOps at h
    unfold wpOpsIn
    cases ho : ops[i]? with
    | none => simp only [ho] at h ⊢; exact opsIn_of_ops2 hp rest a w h
    | some o =>
      simp only [ho] at h ⊢
      have hpo : lastsB o = true := (Array.all_eq_true_iff_forall_mem.1 hp) o (Array.mem_of_getElem? ho)
      by_cases hw : Region.wanted o (yielded ops a.tmps) = true
      · rw [if_pos hw] at h ⊢
        rcases h with h | ⟨_, a', w', h⟩
        · exact wpIn_of_wp2 hpo (fun a w h => opsIn_of_ops2 hp rest a w h) h
        · exact h.elim
      · rw [if_neg hw] at h ⊢
        exact ⟨fun _ _ => trivial, opsIn_of_ops2 hp rest _ w h⟩
/-- Whatever order is picked. -/
theorem wpIn_region_any {id : Nat} {a : Act} {w : World} {ops : Array Oper} {Q : Exit → Act → World → Prop} (hf : P.follows .mixedOrders = true) (hp : ops.all lastsB = true)
    (h : wpAny P .any ops (Only Q) ops.size (Array.replicate ops.size false) a { w with drawn := w.drawn + 1 }) : (Code.region id ops true).wpIn (Fence.wide.inRound l) n P Q a w := by
  refine wpIn_region_draw fun t => ?_
  simp only [Region.schedule, hf, Bool.true_or, if_true]
  exact opsIn_of_ops2 hp _ _ _ (wpAny_sound ops.size t _ a _ h)
/-- Operations and callees that only read: one walk. -/
theorem wpIn_region_quiet {id : Nat} {Q : Exit → Act → World → Prop} {a : Act} {w : World} {l' : List Oper} (hm : P.follows .mixedOrders = true) (hp : l'.toArray.all lastsB = true) (hB : Region.lexB .any l'.toArray = true)
    (h : wpQuiet P l'.toArray (fun w' => ∃ n, w' = w.drewN n) (fun a' => ∀ w', (∃ n, w' = w.drewN n) → Q .normal a' w') l' a) : (Code.region id l'.toArray true).wpIn (Fence.wide.inRound l) n P Q a w := by
  simp only [Region.lexB, Bool.and_eq_true] at hB
  refine wpIn_region_any hm hp (wpAny_of_quiet (C := fun w' => ∃ n, w' = w.drewN n) (Q' := Only Q) (Q := fun a' => ∀ w', (∃ n, w' = w.drewN n) → Q .normal a' w') (fun _ w' hw' h => h w' hw') _ _ _ _ ⟨1, rfl⟩ ?_)
  have := wpAnyQ_lex (C := fun w' => ∃ n, w' = w.drewN n) (md := .any) hB.1 l' 0 (Array.replicate l'.toArray.size false) a (by simp) (by simpa using hB.2) h
  simpa using this
/-- Under a condition that every step keeps. -/
theorem wpIn_region_held {S : World → Prop} {id : Nat} {a : Act} {w : World} {ops : Array Oper} {Q : Exit → Act → World → Prop} (hm : P.follows .mixedOrders = true) (hp : ops.all lastsB = true) (hS : S w.drew)
    (h : S w.drew → wpAnyH P .any ops (Only Q) S ops.size (Array.replicate ops.size false) a w.drew) : (Code.region id ops true).wpIn (Fence.wide.inRound l) n P Q a w :=
  wpIn_region_any hm hp (wpAny_of_held _ _ _ _ (h hS))
end
end Go.Proofs.Ytdinbhanekpjoaa.InRound

/-
  The rows that PlanSpoilt writes: a block of slices of sectors, one a zone.
-/
namespace Go.Proofs.Ytdinbhanekpjoaa
open Go.RowKit
theorem own_take64 {w : World} {e : TypeId} {n c m : Nat} {A : Option Addr} {xs : List Value} (h : w.ownsRow 0 e 64 (.slice A n c) n xs) (hm : m ≤ n) (hA : A = none → m = 0) : w.ownsRow 0 e 64 (.slice A m c) m (xs.take (m * 64)) := by
  have hl := h.1
  refine ⟨by simp; omega, ?_⟩
  rcases h.2 with ⟨h', hx⟩ | ⟨g, cap, cur, h', hb, hg, hc, hcm, hcs, ht⟩
  · simp only [Value.slice.injEq] at h'
    obtain ⟨rfl, rfl, rfl⟩ := h'
    obtain rfl : m = 0 := by omega
    exact .inl ⟨rfl, by simp⟩
  · simp only [Value.slice.injEq] at h'
    obtain ⟨rfl, _, rfl⟩ := h'
    refine .inr ⟨g, c, cur, rfl, hb, hg, by omega, hcm, hcs, ?_⟩
    rw [← ht, List.take_take]
    congr 1
    omega
theorem own_sec {w : World} {g : Nat} {e : TypeId} (x : Sec) (h : w.heap[g]? = some (.cells x.cs.toArray e (0, 0))) : w.ownsRow 0 e 64 (.slice (some ⟨g, 0, none⟩) 1 1) 1 x.cs :=
  ⟨by simp [x.len], .inr ⟨g, 1, x.cs.toArray, rfl, Nat.zero_le _, h, Nat.le_refl _, by simp [maxLen], by simp [x.len], by simp [x.len, List.take_of_length_le]⟩⟩
/-- Block bw holds n slices; U i: the sectors of number i. Their rows lie in blocks of B. -/
def Wr (w : World) (bw n : Nat) (U : Nat → List Sec) (B : Nat → Prop) : Prop :=
  ∃ cs : Array Value, cs.size = n ∧ Blk w bw 47 cs ∧ ∀ i, i < n → ∃ (A : Option Addr) (c : Nat), cs[i]? = some (.slice A (U i).length c) ∧ w.ownsRow 0 34 64 (.slice A (U i).length c) (U i).length ((U i).flatMap Sec.cs) ∧ ∀ g, blkOf A = some g → B g
section
variable {w w' : World} {bw n : Nat} {U U' : Nat → List Sec} {B B' S : Nat → Prop}
theorem Wr.lt (h : Wr w bw n U B) : bw < w.heap.size := by
  obtain ⟨cs, _, hb, _⟩ := h
  exact hb.lt
theorem Wr.mods (h : Wr w bw n U B) (hm : Mods S w w') (hS : ¬ S bw) (hB : ∀ g, B g → ¬ S g) : Wr w' bw n U B := by
  obtain ⟨cs, hn, hb, hr⟩ := h
  refine ⟨cs, hn, hb.mods hm hS, fun i hi => ?_⟩
  obtain ⟨A, c, h1, h2, h3⟩ := hr i hi
  exact ⟨A, c, h1, own_mods h2 hm (fun g hg => hB g (h3 g (by rwa [own_blkOf] at hg))), h3⟩
theorem Wr.below (h : Wr w bw n U B) (hb : Below w.heap.size w w') : Wr w' bw n U B := h.mods (Mods.of_below hb (fun _ => False)) (fun h => h) (fun _ _ h => h)
theorem Wr.mono (h : Wr w bw n U B) (hB : ∀ g, B g → B' g) : Wr w bw n U B' := by
  obtain ⟨cs, hn, hb, hr⟩ := h
  refine ⟨cs, hn, hb, fun i hi => ?_⟩
  obtain ⟨A, c, h1, h2, h3⟩ := hr i hi
  exact ⟨A, c, h1, h2, fun g hg => hB g (h3 g hg)⟩
theorem Wr.congr (h : Wr w bw n U B) (hU : ∀ i, i < n → U' i = U i) : Wr w bw n U' B := by
  obtain ⟨cs, hn, hb, hr⟩ := h
  refine ⟨cs, hn, hb, fun i hi => ?_⟩
  rw [hU i hi]
  exact hr i hi
/-- Number i, as it is read. -/
theorem Wr.at_ (h : Wr w bw n U B) {i : Nat} (hi : i < n) : ∃ (A : Option Addr) (c : Nat), w.cell? ⟨bw, i, none⟩ = some (.slice A (U i).length c) ∧ w.frozen? ⟨bw, i, none⟩ = false ∧ w.ownsRow 0 34 64 (.slice A (U i).length c) (U i).length ((U i).flatMap Sec.cs) ∧ ∀ g, blkOf A = some g → B g := by
  obtain ⟨cs, hn, hb, hr⟩ := h
  obtain ⟨A, c, h1, h2, h3⟩ := hr i hi
  exact ⟨A, c, (hb.cell i).trans h1, hb.frozen i, h2, h3⟩
/-- A row and the block of slices are two. -/
theorem Wr.ne (h : Wr w bw n U B) {A : Option Addr} {m c : Nat} {xs : List Value} (ho : w.ownsRow 0 34 64 (.slice A m c) m xs) : ∀ g, blkOf A = some g → g ≠ bw := fun g hg e => by
  obtain ⟨cs, hn, hb, hr⟩ := h
  rcases ho.2 with ⟨h', _⟩ | ⟨g', cap, cur, h', _, hgg, _⟩
  · simp only [Value.slice.injEq] at h'
    rw [h'.1] at hg
    cases hg
  · simp only [Value.slice.injEq] at h'
    rw [h'.1] at hg
    simp only [blkOf, Option.map_some, Option.some.injEq] at hg
    have hb' : w.heap[bw]? = some (.cells cs 47 (0, 0)) := hb
    rw [← e, ← hg, hgg] at hb'
    simp only [Option.some.injEq, Obj.cells.injEq] at hb'
    exact absurd hb'.2.1 (by decide)
/-- Number j is written anew. -/
theorem Wr.store (h : Wr w bw n U B) {j : Nat} (hj : j < n) {V : List Sec} {A : Option Addr} {c : Nat} (ho : w.ownsRow 0 34 64 (.slice A V.length c) V.length (V.flatMap Sec.cs)) (hB : ∀ g, blkOf A = some g → B g) : Wr (w.setCell ⟨bw, j, none⟩ (.slice A V.length c)) bw n (fun i => if i = j then V else U i) B := by
  have hne := fun {A m c xs} => h.ne (A := A) (m := m) (c := c) (xs := xs)
  obtain ⟨cs, hn, hb, hr⟩ := h
  have hm : Mods (fun b => b = bw) w (w.setCell ⟨bw, j, none⟩ (.slice A V.length c)) := (Mods.refl (fun b => b = bw) w).setCell (p := ⟨bw, j, none⟩) (.inl rfl) _
  refine ⟨cs.setIfInBounds j (.slice A V.length c), by simpa using hn, hb.set_ j _, fun i hi => ?_⟩
  by_cases e : i = j
  · subst e
    dsimp only
    rw [if_pos rfl]
    refine ⟨A, c, ?_, own_mods ho hm (fun g hg => hne ho g (by rwa [own_blkOf] at hg)), hB⟩
    rw [Array.getElem?_setIfInBounds, if_pos rfl, if_pos (by omega)]
  · dsimp only
    rw [if_neg e]
    obtain ⟨A2, c2, h1, h2, h3⟩ := hr i hi
    refine ⟨A2, c2, ?_, own_mods h2 hm (fun g hg => hne h2 g (by rwa [own_blkOf] at hg)), h3⟩
    rw [Array.getElem?_setIfInBounds, if_neg (fun e' => e e'.symm)]
    exact h1
theorem Wr.made (w : World) (n : Nat) (B : Nat → Prop) : Wr (w.alloc (.cells (madeCells #[.slice none 0 0] n) 47)) w.heap.size n (fun _ => []) B := by
  refine ⟨madeCells #[.slice none 0 0] n, size_madeCells _ _, Blk.new w _ _, fun i hi => ⟨none, 0, ?_, World.ownsRow_nil _ _ _ _, fun g hg => by simp [blkOf] at hg⟩⟩
  simp [madeCells, hi, Nat.mod_one]
theorem infoSl : (Try.prog.info? 47).map (fun i => (i.zero, i.size, i.bytes)) = some (some (.slice none 0 0), 1, 24) := by kernel_rfl
theorem run_make_rows (n : Nat) (hn : n ≤ 40) (w : World) : (Instr.makeSlice 79 (.int .i64 (n : Int)) (.int .i64 (n : Int))).run Try.prog w = .ok (.slice (some ⟨w.heap.size, 0, none⟩) n n) (w.alloc (.cells (madeCells #[.slice none 0 0] n) 47)) :=
  run_make_row' (P := Try.prog) 79 47 (.slice none 0 0) 24 Try.underlying79 infoSl rfl .i64 .i64 n (by omega) (by omega) w
end
/-- A block of the law's own was written, and new blocks are its own. -/
theorem Rel8.grow {w w1 wr : World} {E E' : Nat → Prop} {g q d bw : Nat} {X : Dr} (h : Rel8 w E g q d X wr) (hm : Mods (fun b => b = bw) wr w1) (hbE : E bw) (hge : w.heap.size ≤ bw) (hE : ∀ k, E' k → E k ∨ (wr.heap.size ≤ k ∧ k < w1.heap.size)) : Rel8 w E' g q d X w1 := by
  obtain ⟨F, G, A', c', es', Ac', cc', Ah', ch', hT, hg, a1, a2, a3, a4, a5, a6, a7, a8⟩ := h
  have hs := hm.size
  have hgl := hg.lt
  refine ⟨F, G, A', c', es', Ac', cc', Ah', ch', ⟨hT.drv.mods hm (fun k hk e => (a6 bw hbE).1 (e ▸ hk)), hT.ref.mods hm (fun k hk _ e => (a6 bw hbE).2.1 (e ▸ hk)), hT.apart, fun k hk => by have := hT.old k hk; omega⟩, hg.mods hm (fun e => a3 (e ▸ hbE)), a1, a2, fun he => ?_, a4, a5, fun k hk => ?_, a7.trans (hm.below a7.size (fun k e => e ▸ hge)), a8⟩
  · rcases hE _ he with h2 | h2
    · exact a3 h2
    · omega
  · rcases hE k hk with h2 | h2
    · have := a6 k h2; exact ⟨this.1, this.2.1, by omega⟩
    · exact ⟨fun hf => by have := hT.lt k hf; omega, fun hf => by have := hT.old k hf; omega, h2.2⟩
theorem Blk.ne_type {w : World} {g g' : Nat} {t t' : TypeId} {cs cs' : Array Value} (h : Blk w g t cs) (h' : Blk w g' t' cs') (ht : t ≠ t') : g ≠ g' := fun e => by
  have h1 : w.heap[g]? = some (.cells cs t (0, 0)) := h
  have h2 : w.heap[g']? = some (.cells cs' t' (0, 0)) := h'
  rw [e, h2] at h1
  simp only [Option.some.injEq, Obj.cells.injEq] at h1
  exact ht h1.2.1.symm
theorem step_build1 {o : Oper} {a : Act} {w : World} {K : Act → World → Prop} {Q : Exit → Act → World → Prop} {ops : Array Oper} {E : Prop} (hgd : o.guard = none) (x : Sec) (p : Operand) (ho : o.op = .buildSlice 47 1 #[(0, p)]) (hp : a.eval p = .agg x.cs.toArray)
    (h : K (a.put o.dst (.slice (some ⟨w.heap.size, 0, none⟩) 1 1)) (w.alloc (.cells x.cs.toArray 34))) : if Region.wanted o (yielded ops a.tmps) = true then Oper.wp Try.prog o a w K Q else E := by
  rw [if_pos (by simp [Region.wanted, hgd])]
  exact ZD.wp_build1 x p ho hp h
theorem size_sec (w : World) : (sizeOf (Try.prog.elem 47)).run Try.prog w = .ok 64 w := by kernel_rfl
/-- A row is read no further than m. -/
theorem exec_slice_to {a : Act} {o : Oper} {w : World} (x y : Operand) {A : Option Addr} {len c m : Nat} (hm : m ≤ c) (hA : ∀ ad, A = some ad → ad.add 0 = ad) (ho : o.op = .slice 47 x none (some y) none) (hx : a.eval x = .slice A len c) (hy : a.eval y = .int .i64 (m : Int)) : (execOp a.eval o).run Try.prog w = .ok (.value (.slice A m c)) w := by
  have hE : Try.prog.underlying 47 = some (.slice (Try.prog.elem 47)) := by kernel_rfl
  have h1 := run_slice_h (P := Try.prog) w 47 A len c hE .i64 (m : Int) (by omega) (by omega)
  rw [size_sec] at h1
  have h2 : sliced A 0 (m : Int).toNat c 64 = .slice A m c := by
    unfold sliced
    cases A with
    | none => simp
    | some ad =>
      have := hA ad rfl
      simp [this]
  simp only [Result.andThen_ok, h2] at h1
  simp only [execOp, ho, hx, hy, Option.map_some, Option.map_none, Sem.run_bind, run_sliceAt_slice _ _ _ _ _ _ hE, h1, Result.andThen_ok, Sem.run_pure]
end Go.Proofs.Ytdinbhanekpjoaa

/-
  The beginning of a law's loop, where the drive lies in a box of its own.
-/
namespace Go.Proofs.Ytdinbhanekpjoaa
open Go.RowKit
section
variable {w w1 w2 wr : World} {E E' : Nat → Prop} {g q d : Nat} {X : Dr}
theorem Rel8.start3 {A' : Option Addr} {c' : Nat} {Ac' : Option Addr} {cc' : Nat} {Ah' : Option Addr} {ch' : Nat} (hB : Below w.heap.size w w1) (h : Begun8 w1 q d X A' c' Ac' cc' Ah' ch' w2) (o : Obj) : Rel8 w (fun k => (w.heap.size ≤ k ∧ k < w1.heap.size) ∨ k = w2.heap.size) (w2.heap.size + 1) q d X ((w2.alloc o).alloc (.cells #[.slice A' X.D.zs.length c', .int .i64 X.D.size, .int .i64 X.D.op, .int .i64 (X.D.n : Int), .bool X.D.down, .slice Ac' X.coming.length cc', .slice Ah' X.happened.length ch'] 62)) := by
  obtain ⟨F, G, es', hT, hb2, hF, hG⟩ := h
  have s1 := hB.size
  have s2 := hb2.size
  have hlt := hT.lt
  have hb := ((Below.refl w2.heap.size w2).alloc (Nat.le_refl _) o).alloc (by simp) (.cells #[.slice A' X.D.zs.length c', .int .i64 X.D.size, .int .i64 X.D.op, .int .i64 (X.D.n : Int), .bool X.D.down, .slice Ac' X.coming.length cc', .slice Ah' X.happened.length ch'] 62)
  have hm := Mods.of_below hb (fun _ => False)
  have hz : ((w2.alloc o).alloc (.cells #[.slice A' X.D.zs.length c', .int .i64 X.D.size, .int .i64 X.D.op, .int .i64 (X.D.n : Int), .bool X.D.down, .slice Ac' X.coming.length cc', .slice Ah' X.happened.length ch'] 62)).heap.size = w2.heap.size + 2 := by rw [World.size_alloc, World.size_alloc]
  have hblk := Blk.new (w2.alloc o) 62 #[.slice A' X.D.zs.length c', .int .i64 X.D.size, .int .i64 X.D.op, .int .i64 (X.D.n : Int), .bool X.D.down, .slice Ac' X.coming.length cc', .slice Ah' X.happened.length ch']
  rw [World.size_alloc] at hblk
  exact ⟨F, G, A', c', es', Ac', cc', Ah', ch', ⟨hT.drv.mods hm (fun _ _ h => h), hT.ref.below hb, hT.apart, fun k hk => by have := hT.old k hk; omega⟩, hblk, fun hk => by have := hlt _ hk; omega, fun hk => by have := hT.old _ hk; omega, fun h => by omega, fun k hk => by have := hF k hk; omega, fun k hk => by have := hG k hk; omega, fun k hk => ⟨fun h => by have := hF k h; have := hlt k h; omega, fun h => by have := hG k h; have := hT.old k h; omega, by omega⟩, ((hB.trans (hb2.mono s1)).trans (hb.mono (by omega))), by omega⟩
theorem Rel8.sub3 (h : Rel8 w E g q d X wr) (hE : ∀ k, E' k → E k) : Rel8 w E' g q d X wr := by
  obtain ⟨F, G, A', c', es', Ac', cc', Ah', ch', hT, hg, a1, a2, a3, a4, a5, a6, a7, a8⟩ := h
  exact ⟨F, G, A', c', es', Ac', cc', Ah', ch', hT, hg, a1, a2, fun h => a3 (hE _ h), a4, a5, fun k hk => a6 k (hE k hk), a7, a8⟩
end
end Go.Proofs.Ytdinbhanekpjoaa

/-
  A drive's Spoilt.
-/
namespace Go.Proofs.Ytdinbhanekpjoaa.DV
open Go.RowKit
section
variable {w : World} {q d : Nat} {X : Dr} {F FD : Nat → Prop} {A : Option Addr} {c : Nat} {bs : List Nat} {Fs : Nat → Nat → Prop} {mb n : Nat} {Ac : Option Addr} {cc : Nat} {Ah : Option Addr} {ch : Nat}
set_option maxRecDepth 100000 in
set_option maxHeartbeats 2000000 in
theorem spoilt_any (h : DrvIs w q d X F FD A c bs Fs mb n Ac cc Ah ch) (z off : Int) (hz : fits z) (ho : fits off) :
    Calls Try.prog 40 #[.pointer (some ⟨q, 0, none⟩), .int .i64 z, .int .i64 off] w fun e w' => e = .returned (.tuple #[(X.marks z off).1.agg, .int .i64 (X.marks z off).2]) ∧ Below w.heap.size w w' := by
  have hb1 : Below w.heap.size w (w.alloc (.cells Sec.zero.cs.toArray 34)) := (Below.refl _ w).alloc (Nat.le_refl _) _
  have ks := Blk.new w 34 Sec.zero.cs.toArray
  have h1 := h.below hb1
  have Hz := hide hz
  have Ho := hide ho
  clear h hz ho
  go_enter Try.func40, Try.ntmps40
  go_upto_region 1 with (fail)
  generalize hWA : World.alloc w _ = W1
  have hWA' : w.alloc (.cells Sec.zero.cs.toArray 34) = W1 := hWA
  rw [hWA'] at hb1 ks h1
  clear hWA hWA'
  obtain ⟨-, -, -, c3, -⟩ := h1.cells
  have H1 := hide h1
  have Ks := hide ks
  have Hb1 := hide hb1
  have HZ := hide (Blk.new W1 124 Try.zeroCells124)
  clear hb1 ks h1
  have hks : Blk ((W1.alloc (.cells Try.zeroCells124 124)).setRow W1.heap.size ((X.marks z off).1.cs ++ [Value.int .i64 (X.marks z off).2]).toArray) W1.heap.size 124 ((X.marks z off).1.cs ++ [Value.int .i64 (X.marks z off).2]).toArray := HZ.out.setRow ((X.marks z off).1.cs ++ [Value.int .i64 (X.marks z off).2]).toArray
  have hb2 : Below W1.heap.size W1 ((W1.alloc (.cells Try.zeroCells124 124)).setRow W1.heap.size ((X.marks z off).1.cs ++ [Value.int .i64 (X.marks z off).2]).toArray) := below_setRow ((Below.refl _ W1).alloc (Nat.le_refl _) _) (Nat.le_refl _) _
  go_upto_region 2 with (first | ((with_reducible refine wpList_lookup_mark ?g1 (.tmp 12) (.tmp 15) ?o1 ?m1 H1.out.map ?x1 Hz.out Ho.out ?_); (case g1 => exact rfl); (case o1 => exact rfl); (case m1 => exact rfl); (case x1 => exact rfl); unfold markV) | ((with_reducible refine wpList_store_row ?g2 124 (.tmp 8) (.tmp 16) ?o2 W1.heap.size ((X.marks z off).1.cs ++ [Value.int .i64 (X.marks z off).2]).toArray ?x2 ?y2 124 Try.zeroCells124 ?k2 ?s2 ?l2 ?a2 ?_); (case g2 => exact rfl); (case o2 => exact rfl); (case x2 => exact rfl); (case y2 => exact rfl); (case k2 => exact HZ.out); (case s2 => exact sizeMark _); (case l2 => rw [zc_mark_size]; simp [Sec.len]); (case a2 => exact mark_all _)))
  generalize hWB : World.setRow _ _ _ = W2
  have hWB' : (W1.alloc (.cells Try.zeroCells124 124)).setRow W1.heap.size ((X.marks z off).1.cs ++ [Value.int .i64 (X.marks z off).2]).toArray = W2 := hWB
  rw [hWB'] at hks hb2
  clear hWB hWB' HZ c3
  obtain ⟨m0, m1⟩ := mark_cells (show Blk W2.drew W1.heap.size 124 _ from hks)
  have ks2 : Blk W2 w.heap.size 34 Sec.zero.cs.toArray := (hb2.block _ Ks.out.lt).trans Ks.out
  have Ks2 := hide ks2
  have Hb2 := hide (Hb1.out.trans (hb2.mono Hb1.out.size))
  clear hks hb2 ks2
  have hgm : w.heap.size < W1.heap.size := Ks.out.lt
  generalize W1.heap.size = gm at m0 m1 hgm ⊢
  have Hgm := hide hgm
  clear hgm
  have Ks3 := hide (show Blk W2.drew w.heap.size 34 Sec.zero.cs.toArray from Ks2.out)
  have HS := hide (And.intro m0 m1)
  refine wp_region_held_drew (S := fun w' => w'.rangeAt gm 0 (X.marks z off).1.cs ∧ w'.cell? ⟨gm, 64, none⟩ = some (.int .i64 (X.marks z off).2)) (by kernel_rfl) ⟨m0, m1⟩ (fun hHeld => ?_)
  refine wpAnyH_take (i := 0) (oi := ⟨_, _, _, _, _, _⟩) (v := ?_) rfl (by kernel_rfl) (by kernel_rfl) (by kernel_rfl) (fun _ _ _ h => h) (Or.inl ⟨by rfl, ?_⟩) hHeld ?_
  rotate_left
  · intro w' hS
    obtain ⟨x0, x1⟩ := hS
    go_simp
    first | done | with_reducible rfl
  try simp only [Act.put, List.setIfInBounds_toArray, List.set_cons_zero, List.set_cons_succ]
  refine wpAnyH_take (i := 1) (oi := ⟨_, _, _, _, _, _⟩) (v := .agg (X.marks z off).1.cs.toArray) rfl (by kernel_rfl) (by kernel_rfl) (by kernel_rfl) (fun _ _ _ h => h) (yieldsIf_load_mid (by rfl) 34 (.tmp 17) rfl gm (0) rfl (X.marks z off).1.cs _ (fun w' hS => hS.1) Try.underlying34 rfl (ZD.sizeSec _)) hHeld ?_
  try simp only [Act.put, List.setIfInBounds_toArray, List.set_cons_zero, List.set_cons_succ]
  refine wpAnyH_take (i := 2) (oi := ⟨_, _, _, _, _, _⟩) (v := ?_) rfl (by kernel_rfl) (by kernel_rfl) (by kernel_rfl) (fun _ _ _ h => h) (Or.inl ⟨by rfl, ?_⟩) hHeld ?_
  rotate_left
  · intro w' hS
    obtain ⟨x0, x1⟩ := hS
    go_simp
    first | done | with_reducible rfl
  try simp only [Act.put, List.setIfInBounds_toArray, List.set_cons_zero, List.set_cons_succ]
  refine wpAnyH_take (i := 3) (oi := ⟨_, _, _, _, _, _⟩) (v := ?_) rfl (by kernel_rfl) (by kernel_rfl) (by kernel_rfl) (fun _ _ _ h => h) (Or.inl ⟨by rfl, ?_⟩) hHeld ?_
  rotate_left
  · intro w' hS
    obtain ⟨x0, x1⟩ := hS
    go_simp
    first | done | with_reducible rfl
  try simp only [Act.put, List.setIfInBounds_toArray, List.set_cons_zero, List.set_cons_succ]
  refine wpAnyH_ready (rs := [4]) (by kernel_rfl) (by simp) ?_
  refine AllReadyH.cons rfl (fun K hK => ?_) AllReadyH.nil
  rw [if_pos (by rfl)]
  refine wp_store_row 34 (.tmp 6) (.tmp 18) rfl w.heap.size (X.marks z off).1.cs.toArray rfl rfl 34 Sec.zero.cs.toArray Ks3.out (ZD.sizeRow _) (by simp [Sec.len]) (sec_all _) ?_
  have hmR := (Mods.refl (fun k => k = w.heap.size) W2.drew).setRow (g := w.heap.size) (.inl rfl) (X.marks z off).1.cs.toArray
  refine hK.out _ _ ⟨R7.range_mods m0 hmR (by have := Hgm.out; omega), (hmR.cell (p := ⟨gm, 64, none⟩) (World.block_lt_of_cell? _ _ m1) (by have := Hgm.out; dsimp only; omega)).trans m1⟩ (fun hHeld => ?_)
  clear hK K
  try simp only [Act.put, List.setIfInBounds_toArray]
  refine wpAnyH_take (i := 5) (oi := ⟨_, _, _, _, _, _⟩) (v := ?_) rfl (by kernel_rfl) (by kernel_rfl) (by kernel_rfl) (fun _ _ _ h => h) (Or.inl ⟨by rfl, ?_⟩) hHeld ?_
  rotate_left
  · intro w' hS
    obtain ⟨x0, x1⟩ := hS
    go_simp
    first | done | with_reducible rfl
  try simp only [Act.put]
  refine wpAnyH_done (by kernel_rfl) ?_ _
  go_wp2_with fail
  refine bodyPost_ret (v := .tuple #[(X.marks z off).1.agg, .int .i64 (X.marks z off).2]) ?_ rfl ?_
  · exact results_sec2 (fn := Try.f40) (p := 6) (u := 7) rfl Try.underlying34 ZD.sizeS _ _ _ rfl rfl (Ks3.out.setRow _)
  · exact ⟨rfl, below_setRow Hb2.out.drew (Nat.le_refl _) _⟩
end
end Go.Proofs.Ytdinbhanekpjoaa.DV
