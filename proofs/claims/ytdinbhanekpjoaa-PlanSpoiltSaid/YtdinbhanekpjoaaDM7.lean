/-
  zdev.New: a device with empty zones.
-/
import Derived.Test.YtdinbhanekpjoaaDM6
namespace Go.Proofs.Ytdinbhanekpjoaa
open Go.RowKit
/-- A new device with k zones. -/
def Dv.made (k : Nat) (size op : Int) : Dv := { zs := List.replicate k (Zn.new size), size, op, n := 0, down := false }
namespace DM
section
variable {w : World} {d : Nat} {D : Dv} {F : Nat → Prop} {A : Option Addr} {c : Nat} {bs : List Nat} {Fs : Nat → Nat → Prop}
/-- A device has been laid beyond B. -/
def Laid (B : Nat) (w0 w : World) (d : Nat) (D : Dv) : Prop := ∃ F A c bs Fs, DevIs w d D F A c bs Fs ∧ Below B w0 w ∧ (∀ k, F k → B ≤ k) ∧ B ≤ w.heap.size

/-- A zone has been laid, the row has taken its pointer, the device's cell is written. -/
theorem push {B : Nat} {w0 w1 w3 : World} {b : Nat} {z : Zn Sec} {A' : Option Addr} {c' : Nat} {o : Obj} (hB : Below B w0 w) (hBs : B ≤ w.heap.size) (h : DevIs w d D F A c bs Fs) (hF : ∀ k, F k → B ≤ k)
    (hmade : ZD.Made w w1 b z) (hgrow : (w1.alloc o).grownBy w3 (Value.slice A D.zs.length c).ownBlock)
    (hown : w3.ownsRow 0 88 1 (.slice A' (D.zs.length + 1) c') (D.zs.length + 1) ((bs ++ [b]).map ptr))
    (hat : (Value.slice A' (D.zs.length + 1) c').ownBlock = (Value.slice A D.zs.length c).ownBlock ∨ (Value.slice A' (D.zs.length + 1) c').ownBlock = some (w1.heap.size + 1)) :
    Laid B w0 (w3.setCell ⟨d, 0, none⟩ (.slice A' (D.zs.length + 1) c')) d { D with zs := D.zs ++ [z] } := by
  obtain ⟨Fz, hz, hb1, hFz⟩ := hmade.below
  have hs1 := hb1.size
  have hdl : d < w.heap.size := h.lt d h.inF.1
  have hlen := h.len
  have hFl := h.lt
  have hFzl : ∀ k, Fz k → k < w1.heap.size := by obtain ⟨_, _, _, _, _, _, hh⟩ := hz; exact hh
  have h1 := h.below hb1
  have hg13 : Mods (fun k => (Value.slice A D.zs.length c).ownBlock = some k) w1 w3 := ((Mods.refl _ w1).alloc o).grown hgrow (fun k hk => .inl hk)
  have hs3 := hg13.size
  have hset : Mods (fun k => k = d) w3 (w3.setCell ⟨d, 0, none⟩ (.slice A' (D.zs.length + 1) c')) := (Mods.refl (fun k => k = d) w3).setCell (p := ⟨d, 0, none⟩) (.inl rfl) _
  have hrowd : ¬ (Value.slice A D.zs.length c).ownBlock = some d := fun e => (h.noR d e).1 rfl
  have hblk3 := h1.blk.mods hg13 hrowd
  have hA'd : ∀ g, (Value.slice A' (D.zs.length + 1) c').ownBlock = some g → g ≠ d ∧ (∀ i, i < D.zs.length → ¬ Fs i g) ∧ ¬ Fz g ∧ B ≤ g := fun g hg => by
    rcases hat with e | e
    · rw [e] at hg
      have := h.noR g hg
      have hgF := h.inF.2.1 g hg
      exact ⟨this.1, this.2, fun hz => by have := hFz g hz; have := hFl g hgF; omega, hF g hgF⟩
    · rw [e] at hg
      simp only [Option.some.injEq] at hg
      subst hg
      exact ⟨by omega, fun i hi hf => by have := hFl _ (h.inF.2.2 i hi _ hf); omega, fun hf => by have := hFzl _ hf; omega, by omega⟩
  have hBel3 : Below B w0 w3 := (hB.trans (hb1.mono hBs)).trans (hg13.below (by omega) (fun k hk => hF k (h.inF.2.1 k hk)))
  refine ⟨fun k => F k ∨ (w.heap.size ≤ k ∧ k < w3.heap.size), A', c', bs ++ [b], fun i => if i = D.zs.length then Fz else Fs i, ⟨?_, by simp [hlen], ?_, ?_, ?_, ?_, ?_, ?_, ?_⟩, ?_, ?_, ?_⟩
  · simpa using hblk3.set_ 0 (.slice A' (D.zs.length + 1) c')
  · have := own_mods hown hset (fun g hg => (hA'd g hg).1)
    simpa using this
  · intro i hi hi'
    simp only [List.length_append, List.length_cons, List.length_nil] at hi
    by_cases hik : i = D.zs.length
    · subst hik
      have e1 : (bs ++ [b])[D.zs.length] = b := by simp [← hlen]
      have e2 : (D.zs ++ [z])[D.zs.length] = z := by simp
      simp only [e1, e2, if_pos]
      refine (hz.mods hg13 (fun k hk e => ?_)).mods hset (fun k hk e => ?_)
      · have := hFz k hk
        have := hFl k (h.inF.2.1 k e)
        omega
      · have := hFz k hk
        omega
    · have hi2 : i < D.zs.length := by omega
      have e1 : (bs ++ [b])[i] = bs[i]'(by omega) := by rw [List.getElem_append_left]
      have e2 : (D.zs ++ [z])[i]'(by simp; omega) = D.zs[i] := by rw [List.getElem_append_left]
      simp only [e1, e2, if_neg hik]
      exact ((h1.zone i hi2 (by omega)).mods hg13 (fun k hk e => (h.noR k e).2 i hi2 hk)).mods hset (fun k hk e => h.noD i hi2 (e ▸ hk))
  · intro i j hi hj hij q hq
    simp only [List.length_append, List.length_cons, List.length_nil] at hi hj
    by_cases hik : i = D.zs.length
    · rw [if_pos hik] at hq
      rw [if_neg (by omega)]
      intro hq2
      have := hFz q hq
      have := hFl q (h.inF.2.2 j (by omega) q hq2)
      omega
    · rw [if_neg hik] at hq
      by_cases hjk : j = D.zs.length
      · rw [if_pos hjk]
        intro hq2
        have := hFz q hq2
        have := hFl q (h.inF.2.2 i (by omega) q hq)
        omega
      · rw [if_neg hjk]
        exact h.apart i j (by omega) (by omega) hij q hq
  · intro i hi
    simp only [List.length_append, List.length_cons, List.length_nil] at hi
    by_cases hik : i = D.zs.length
    · rw [if_pos hik]; intro hd; have := hFz d hd; omega
    · rw [if_neg hik]; exact h.noD i (by omega)
  · intro g hg
    simp only [List.length_append, List.length_cons, List.length_nil] at hg
    obtain ⟨a1, a2, a3, _⟩ := hA'd g hg
    refine ⟨a1, fun i hi => ?_⟩
    simp only [List.length_append, List.length_cons, List.length_nil] at hi
    by_cases hik : i = D.zs.length
    · rw [if_pos hik]; exact a3
    · rw [if_neg hik]; exact a2 i (by omega)
  · refine ⟨.inl h.inF.1, fun g hg => ?_, fun i hi k hk => ?_⟩
    · simp only [List.length_append, List.length_cons, List.length_nil] at hg
      have hgl := own_lt hown g hg
      rcases hat with e | e
      · rw [e] at hg; exact .inl (h.inF.2.1 g hg)
      · rw [e] at hg
        simp only [Option.some.injEq] at hg
        exact .inr ⟨by omega, hgl⟩
    · simp only [List.length_append, List.length_cons, List.length_nil] at hi
      by_cases hik : i = D.zs.length
      · rw [if_pos hik] at hk
        exact .inr ⟨hFz k hk, by have := hFzl k hk; omega⟩
      · rw [if_neg hik] at hk; exact .inl (h.inF.2.2 i (by omega) k hk)
  · intro k hk
    have := hset.size
    rcases hk with hk | hk
    · have := hFl k hk; omega
    · omega
  · exact hBel3.setCell (p := ⟨d, 0, none⟩) (hF d h.inF.1) _
  · intro k hk
    rcases hk with hk | hk
    · exact hF k hk
    · omega
  · have := hset.size; omega
end
theorem infoP : (Try.prog.info? 88).map (fun i => (i.zero, i.size, i.bytes)) = some (some (.pointer none), 1, 8) := by kernel_rfl

set_option maxRecDepth 100000 in
set_option maxHeartbeats 1000000 in
theorem new_any (zones size op : Int) (w : World) (hz1 : 1 ≤ zones) (hz2 : zones ≤ 512) (hs1 : 1 ≤ size) (hs2 : size ≤ 64) (ho1 : 1 ≤ op) (ho2 : op ≤ 64) :
    Calls Try.prog 15 #[.int .i64 zones, .int .i64 size, .int .i64 op] w fun e w' => e = .returned (.tuple #[.pointer (some ⟨w.heap.size, 0, none⟩), .int .i64 0]) ∧ Laid w.heap.size w w' w.heap.size (Dv.made zones.toNat size op) := by
  obtain ⟨n, rfl⟩ := Int.eq_ofNat_of_zero_le (show 0 ≤ zones by omega)
  have Hw1 := hide (within_yes (n : Int) 512 w hz1 hz2)
  have Hw2 := hide (fun w => within_yes op 64 w ho1 ho2)
  obtain ⟨i0, hi, hp0, hp1, hp2⟩ := info_parts infoP
  go_enter Try.func15, Try.ntmps15
  go_wp2_with fail
  refine Hw1.out.mono ?_
  rintro e w' ⟨rfl, rfl⟩
  go_wp2_with fail
  refine (Hw2.out _).mono ?_
  rintro e w' ⟨rfl, rfl⟩
  go_wp2_with fail
  have h0 : Laid w.heap.size w (w.alloc (.cells #[.slice none 0 0, .int .i64 size, .int .i64 op, .int .i64 0, .bool false] 87)) w.heap.size (Dv.made 0 size op) :=
    ⟨fun k => k = w.heap.size, none, 0, [], fun _ _ => False, ⟨Blk.new _ _ _, rfl, World.ownsRow_nil _ _ _ _, fun i hi => absurd hi (by simp [Dv.made]), fun i _ hi => absurd hi (by simp [Dv.made]), fun _ _ h => h, fun g hg => by simp [Value.ownBlock] at hg,
      ⟨rfl, fun g hg => by simp [Value.ownBlock] at hg, fun _ _ _ h => h.elim⟩, fun k hk => by subst hk; simp⟩, (Below.refl _ w).alloc (Nat.le_refl _) _, fun k hk => by omega, by simp⟩
  have H0 := hide h0
  clear h0
  generalize w.alloc _ = W1 at H0 ⊢
  go_loopw [9, 10, 24] (fun _ _ i wr => ∃ k : Nat, k ≤ n ∧ i = .int .i64 k ∧ Laid w.heap.size w wr w.heap.size (Dv.made k size op)) (fun _ _ i _ => n - (intOf i).toNat)
  case atStart => exact ⟨0, by omega, rfl, H0.out⟩
  case round =>
    obtain ⟨k, hk, rfl, hlaid⟩ := hrel
    by_cases hlt : k < n
    · obtain ⟨F, A, c, bs, Fs, h, hb, hF, hBs⟩ := hlaid
      have hlk : (Dv.made k size op).zs.length = k := by simp [Dv.made]
      have H := hide h
      have Hb := hide hb
      have HF := hide hF
      have Hlk := hide hlk
      clear h hb hF hlk H0
      go_wp2_with fail
      refine (ZD.new_any size _ hs1 hs2).mono ?_
      rintro e w1 ⟨rfl, hmade⟩
      have hb1 : Below wr.heap.size wr w1 := by obtain ⟨_, _, hb1, _⟩ := hmade.below; exact hb1
      have h1 := H.out.below hb1
      have hown1 := h1.own
      have hblk1 := h1.blk
      have hrow1 : ¬ (Value.slice A (Dv.made k size op).zs.length c).ownBlock = some w.heap.size := fun e => (h1.noR _ e).1 rfl
      rw [Hlk.out] at hown1 hblk1 hrow1
      have c0 : w1.cell? ⟨w.heap.size, 0, none⟩ = some (.slice A k c) := hblk1.cell 0
      have Hblk1 := hide hblk1
      have Hrow1 := hide hrow1
      have Hmade := hide hmade
      have hs1w := hb1.size
      clear hb1 h1 hmade hblk1 hrow1
      go_wp2_with (at_builtin; refine wpList_append_own_at _ rfl _ _ 85 rfl 0 88 i0 _ 1 8 Try.underlying85 hi hp0 hp1 hp2 rfl (by decide) (.slice A k c) k (bs.map ptr) rfl (hown1.alloc _) ⟨w1.heap.size, 0, none⟩ 1 1 [.pointer (some ⟨wr.heap.size, 0, none⟩)] rfl rfl (cell_one_new _ _ _) (by simp [Value.oneCell']) (by unfold maxLen; omega) (by omega) (by simp) ?_; intro v' w3 hown' hgrow hnil hat; obtain ⟨A', c', rfl⟩ := own_form hown'; have hb3 := (Hblk1.out.alloc (.cells #[.pointer (some ⟨wr.heap.size, 0, none⟩)] 88)).grown hgrow (fun e => Hrow1.out e.symm); have d0 : w3.cell? ⟨w.heap.size, 0, none⟩ = some (.slice A k c) := hb3.cell 0; have f0 := hb3.frozen 0)
      go_roundw
      case rel =>
        refine ⟨k + 1, by omega, by go_num, ?_⟩
        have hh := push (B := w.heap.size) (A' := A') (c' := c') Hb.out hBs H.out HF.out Hmade.out (by rw [Hlk.out]; exact hgrow) (by rw [Hlk.out]; simpa [ptr] using hown') (by rw [Hlk.out]; simpa using hat)
        rw [Hlk.out] at hh
        have e : ({ Dv.made k size op with zs := (Dv.made k size op).zs ++ [Zn.new size] } : Dv) = Dv.made (k + 1) size op := by
          simp [Dv.made, List.replicate_succ']
        rw [← e]
        exact hh
      case measure => simp [intOf]; omega
    · obtain rfl : k = n := by omega
      have Hl := hide hlaid
      clear hlaid H0
      go_wp2_with fail
      go_ret2
      exact ⟨rfl, Hl.out⟩

set_option maxRecDepth 100000 in
set_option maxHeartbeats 1000000 in
theorem new_no (zones size op : Int) (w : World) (h : ¬ (1 ≤ zones ∧ zones ≤ 512 ∧ 1 ≤ size ∧ size ≤ 64 ∧ 1 ≤ op ∧ op ≤ 64)) :
    Calls Try.prog 15 #[.int .i64 zones, .int .i64 size, .int .i64 op] w fun e w' => e = .returned (.tuple #[.pointer none, .int .i64 13]) ∧ Below w.heap.size w w' := by
  by_cases hz : zones < 1 ∨ 512 < zones
  · have Hw1 := hide (within_no zones 512 w hz)
    clear h hz
    go_enter Try.func15, Try.ntmps15
    go_wp2_with fail
    refine Hw1.out.mono ?_
    rintro e w' ⟨rfl, rfl⟩
    go_wp2_with fail
    go_ret2
    exact ⟨rfl, Below.refl _ _⟩
  · obtain ⟨n, rfl⟩ := Int.eq_ofNat_of_zero_le (show 0 ≤ zones by omega)
    have Hw1 := hide (within_yes (n : Int) 512 w (by omega) (by omega))
    by_cases ho : op < 1 ∨ 64 < op
    · have Hw2 := hide (fun w => within_no op 64 w ho)
      clear h hz ho
      go_enter Try.func15, Try.ntmps15
      go_wp2_with fail
      refine Hw1.out.mono ?_
      rintro e w' ⟨rfl, rfl⟩
      go_wp2_with fail
      refine (Hw2.out _).mono ?_
      rintro e w' ⟨rfl, rfl⟩
      go_wp2_with fail
      go_ret2
      exact ⟨rfl, Below.refl _ _⟩
    · have Hw2 := hide (fun w => within_yes op 64 w (by omega) (by omega))
      have hs : size < 1 ∨ 64 < size := by omega
      have hn1 : 0 < n := by omega
      have Hs := hide (fun w => ZD.new_no size w hs)
      clear h hz ho hs
      have dn : decide (0 < n) = true := decide_eq_true hn1
      go_enter Try.func15, Try.ntmps15
      go_wp2_with fail
      refine Hw1.out.mono ?_
      rintro e w' ⟨rfl, rfl⟩
      go_wp2_with fail
      refine (Hw2.out _).mono ?_
      rintro e w' ⟨rfl, rfl⟩
      go_wp2_with fail
      refine wp_loop_rounds 1 ?_
      rw [rounds_succ]
      go_wp2_with fail
      refine (Hs.out _).mono ?_
      rintro e w' ⟨rfl, rfl⟩
      go_wp2_with fail
      go_ret2
      exact ⟨rfl, (Below.refl _ _).alloc (Nat.le_refl _) _⟩
end DM
end Go.Proofs.Ytdinbhanekpjoaa
