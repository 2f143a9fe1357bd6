/-
  What DeviceFlushes says, in plain words; and rows of ints.
-/
import Derived.Test.YtdinbhanekpjoaaLimitW
namespace Go.Proofs.Ytdinbhanekpjoaa
open Go.RowKit

/-- A row of n ints. -/
def intsArr (f : Nat → Int) (n : Nat) : Array Value := ((List.range n).map fun i => Value.int .i64 (f i)).toArray
theorem intsArr_size (f : Nat → Int) (n : Nat) : (intsArr f n).size = n := by simp [intsArr]
theorem intsArr_get (f : Nat → Int) (n j : Nat) (hj : j < n) : (intsArr f n)[j]? = some (.int .i64 (f j)) := by simp [intsArr, hj]
theorem intsArr_congr {f g : Nat → Int} {n : Nat} (h : ∀ i, i < n → f i = g i) : intsArr f n = intsArr g n := by
  unfold intsArr
  congr 1
  apply List.map_congr_left
  intro i hi
  rw [h i (List.mem_range.1 hi)]
theorem intsArr_made (n : Nat) : madeCells #[Value.int .i64 0] n = intsArr (fun _ => 0) n := by
  apply Array.ext_getElem?
  intro i
  by_cases hi : i < n
  · rw [intsArr_get _ _ _ hi]
    simp [madeCells, hi, Nat.mod_one]
  · rw [Array.getElem?_eq_none (by rw [size_madeCells]; omega), Array.getElem?_eq_none (by rw [intsArr_size]; omega)]
/-- The first j are written. -/
def upTo (f : Nat → Int) (j : Nat) (i : Nat) : Int := if i < j then f i else 0
theorem upTo_zero (f : Nat → Int) (n : Nat) : intsArr (fun _ => 0) n = intsArr (upTo f 0) n := intsArr_congr (fun i _ => by simp [upTo])
theorem upTo_all (f : Nat → Int) (n : Nat) : intsArr (upTo f n) n = intsArr f n := intsArr_congr (fun i hi => by simp [upTo, hi])
theorem upTo_succ (f : Nat → Int) (n j : Nat) (_hj : j < n) : (intsArr (upTo f j) n).setIfInBounds j (.int .i64 (f j)) = intsArr (upTo f (j + 1)) n := by
  apply Array.ext_getElem?
  intro i
  rw [Array.getElem?_setIfInBounds]
  by_cases hi : i < n
  · rw [intsArr_get _ _ _ hi]
    by_cases h : j = i
    · subst h
      rw [if_pos rfl, if_pos (by rw [intsArr_size]; exact hi), intsArr_get _ _ _ hi, show upTo f (j + 1) j = f j from if_pos (by omega)]
    · rw [if_neg h, intsArr_get _ _ _ hi]
      unfold upTo
      by_cases h1 : i < j
      · rw [if_pos h1, if_pos (by omega)]
      · rw [if_neg h1, if_neg (by omega)]
  · rw [if_neg (by omega), Array.getElem?_eq_none (by rw [intsArr_size]; omega), Array.getElem?_eq_none (by rw [intsArr_size]; omega)]
theorem infoI : (Try.prog.info? 3).map (fun i => (i.zero, i.size, i.bytes)) = some (some (.int .i64 0), 1, 8) := by kernel_rfl

namespace Dv
/-- How many sectors zone i has. -/
def lens (D : Dv) (i : Nat) : Int := ((D.zs[i]?.map fun z => z.L.length).getD 0 : Nat)
theorem lenOf_lens {D : Dv} {i : Nat} (hi : i < D.zs.length) : D.lenOf (i : Int) = D.lens i := by rw [lenOf_in hi]; simp [lens, hi]
/-- Of the steps only the Appends are played. -/
def playA (D : Dv) (o : OpV) : Dv := if o.kind = 1 then (D.append o.zone o.s).1 else D
def playAs (D : Dv) (os : List OpV) (k : Nat) : Dv := (os.take k).foldl playA D
theorem playAs_zero (D : Dv) (os : List OpV) : D.playAs os 0 = D := by simp [playAs]
theorem playAs_succ (D : Dv) (os : List OpV) (k : Nat) (hk : k < os.length) : D.playAs os (k + 1) = (D.playAs os k).playA os[k] := by
  simp only [playAs, List.take_succ_eq_append_getElem hk, List.foldl_append, List.foldl_cons, List.foldl_nil]
theorem playA_ok {D : Dv} {m : Nat} (h : D.Ok m) (o : OpV) : (D.playA o).Ok (m + 1) ∧ D.Like (D.playA o) := by
  unfold playA
  split
  · exact append_ok h _ _
  · exact ⟨h.mono (by omega), .refl D⟩
theorem playAs_ok {D : Dv} {m : Nat} (h : D.Ok m) (os : List OpV) : ∀ k, k ≤ os.length → (D.playAs os k).Ok (m + k) ∧ D.Like (D.playAs os k)
  | 0, _ => by rw [playAs_zero]; exact ⟨h, .refl D⟩
  | k + 1, hk => by
    obtain ⟨a, b⟩ := playAs_ok h os k (by omega)
    rw [playAs_succ D os k (by omega)]
    obtain ⟨c, d⟩ := playA_ok a os[k]
    exact ⟨c, b.trans d⟩
/-- What an Append keeps of zone i: what is safe, and that nothing gets lost. -/
def Grows (D D' : Dv) : Prop := D'.down = D.down ∧ ∀ i (h : i < D.zs.length) (h' : i < D'.zs.length), D'.zs[i].safe = D.zs[i].safe ∧ D.zs[i].L.length ≤ D'.zs[i].L.length
theorem Grows.refl (D : Dv) : D.Grows D := ⟨rfl, fun _ _ _ => ⟨rfl, Nat.le_refl _⟩⟩
theorem Grows.trans {D D' D'' : Dv} (hl : D'.zs.length = D.zs.length) (h : D.Grows D') (k : D'.Grows D'') : D.Grows D'' :=
  ⟨k.1.trans h.1, fun i hi hi'' => by
    obtain ⟨a, b⟩ := h.2 i hi (by omega)
    obtain ⟨c, d⟩ := k.2 i (by omega) hi''
    exact ⟨c.trans a, by omega⟩⟩
theorem grows_put {D : Dv} {k : Nat} {x : Zn Sec} (hx : D.zs[k]? = some x) (z : Zn Sec) (h1 : z.safe = x.safe) (h2 : x.L.length ≤ z.L.length) : D.Grows (D.put k z) := ⟨rfl, fun i hi hi' => by
  have hk : k < D.zs.length := (List.getElem?_eq_some_iff.1 hx).1
  have e : D.zs[k] = x := (List.getElem?_eq_some_iff.1 hx).2
  by_cases hik : k = i
  · subst hik
    simp only [Dv.put, List.getElem_set_self]
    rw [e]
    exact ⟨h1, h2⟩
  · simp only [Dv.put]
    rw [List.getElem_set_ne hik]
    exact ⟨rfl, Nat.le_refl _⟩⟩
theorem zn_safe (x : Zn Sec) (s : Sec) : (x.append s).1.safe = x.safe := by
  unfold Zn.append
  split
  · rfl
  · split <;> rfl
theorem zn_more (x : Zn Sec) (s : Sec) : x.L.length ≤ (x.append s).1.L.length := by
  unfold Zn.append
  split
  · exact Nat.le_refl _
  · split <;> simp
theorem grows_append (D : Dv) (z : Int) (s : Sec) : D.Grows (D.append z s).1 := by
  unfold append
  split
  · rcases R7.begin_fst D z with e | e <;> rw [e]
    · exact .refl D
    · exact .refl D
  · split
    · rename_i x hx
      split
      · exact .refl D
      · have h := grows_put (D := D.tick) (k := z.toNat) (x := x) hx (x.append s).1 (zn_safe x s) (zn_more x s)
        exact ⟨h.1, h.2⟩
    · exact .refl D
theorem grows_playAs {D : Dv} {m : Nat} (h : D.Ok m) (os : List OpV) : ∀ k, k ≤ os.length → D.Grows (D.playAs os k)
  | 0, _ => by rw [playAs_zero]; exact .refl D
  | k + 1, hk => by
    have h1 := grows_playAs h os k (by omega)
    have h2 := (playAs_ok h os k (by omega)).2.len
    rw [playAs_succ D os k (by omega)]
    refine h1.trans h2 ?_
    unfold playA
    split
    · exact grows_append _ _ _
    · exact .refl _
/-- The plain law: D is flushed, then only grows, then goes down and is revived. -/
theorem flushed_len {D1 D3 : Dv} {keep : List Int} {i : Nat} (hf : ∀ i (h : i < D1.zs.length), D1.zs[i].safe = D1.zs[i].L.length) (hg : D1.Grows D3) (hl : D3.zs.length = D1.zs.length) (hi : i < D1.zs.length) (kk : Int)
    (hk : kk = if i < keep.length then max (keep.getD i 0) 0 else 0) : (({ D3 with down := true } : Dv).revive keep).lens i = D1.lens i + min kk (D3.lens i - D1.lens i) := by
  obtain ⟨h1, h2⟩ := hg.2 i hi (by omega)
  have hi3 : i < D3.zs.length := by omega
  rw [hf i hi] at h1
  rw [revive_down keep (D := { D3 with down := true }) rfl]
  have e1 : D1.lens i = (D1.zs[i].L.length : Nat) := by simp [lens, hi]
  have e3 : D3.lens i = (D3.zs[i].L.length : Nat) := by simp [lens, hi3]
  have e4 : lens { ({ D3 with down := true } : Dv).mapTo (fun i z => z.crash (kept keep i)) D3.zs.length with down := false } i = ((D3.zs[i].crash (kept keep i)).L.length : Nat) := by
    simp [lens, Dv.mapTo, hi3]
  rw [e4, e1, e3]
  have hleft : (D3.zs[i].crash (kept keep i)).L.length = D3.zs[i].left (kept keep i) := by
    have := Zn.left_le (z := D3.zs[i]) (kept keep i) (by rw [h1]; exact h2)
    simp [Zn.crash]
    omega
  rw [hleft]
  unfold Zn.left
  rw [h1]
  have hkk : (kept keep i).toNat = kk.toNat ∧ 0 ≤ kk := by
    unfold kept
    by_cases hik : i < keep.length
    · rw [if_pos hik] at hk
      omega
    · rw [if_neg hik] at hk
      have : keep.getD i 0 = 0 := by simp [List.getD, List.getElem?_eq_none (Nat.not_lt.1 hik)]
      rw [this]
      omega
  omega
end Dv
end Go.Proofs.Ytdinbhanekpjoaa
