/-
  The zone's Change at frame.Sector, with the function that Spoil hands to it.
-/
import Derived.Test.YtdinbhanekpjoaaXor
namespace Go.Proofs.Ytdinbhanekpjoaa
open Go.RowKit

/-- xs, from place o on turned into vs. -/
def setAll (xs : List Value) : Nat → List Value → List Value
  | _, [] => xs
  | o, v :: vs => setAll (xs.set o v) (o + 1) vs
theorem setAll_length : ∀ (vs : List Value) (xs : List Value) (o : Nat), (setAll xs o vs).length = xs.length
  | [], _, _ => rfl
  | v :: vs, xs, o => by rw [setAll, setAll_length vs, List.length_set]
theorem setAll_get : ∀ (vs : List Value) (xs : List Value) (o i : Nat), o + vs.length ≤ xs.length → (setAll xs o vs)[i]? = if o ≤ i ∧ i < o + vs.length then vs[i - o]? else xs[i]?
  | [], xs, o, i, _ => by rw [setAll, if_neg (by simp only [List.length_nil]; omega)]
  | v :: vs, xs, o, i, h => by
    simp only [List.length_cons] at h
    rw [setAll, setAll_get vs _ (o + 1) i (by simp; omega)]
    by_cases h1 : o = i
    · subst h1
      rw [if_neg (by omega), if_pos ⟨Nat.le_refl _, by simp⟩, List.getElem?_set, if_pos rfl, if_pos (by omega)]
      simp
    · by_cases h2 : o + 1 ≤ i ∧ i < o + 1 + vs.length
      · rw [if_pos h2, if_pos ⟨by omega, by simp; omega⟩, show i - o = (i - (o + 1)) + 1 by omega]
        simp
      · rw [if_neg h2, if_neg (by simp; omega), List.getElem?_set, if_neg h1]
theorem setAll_flat (l : List Sec) (k : Nat) (hk : k < l.length) (x : Sec) : setAll (l.flatMap Sec.cs) (k * 64) x.cs = (l.set k x).flatMap Sec.cs := by
  apply List.ext_getElem?
  intro i
  have hl := flat_length l
  have hb : k * 64 + 64 ≤ l.length * 64 := by omega
  rw [setAll_get _ _ _ _ (by rw [hl, x.len]; exact hb), x.len]
  by_cases hi : i < l.length * 64
  · obtain ⟨q, r, hr, rfl⟩ : ∃ q r, r < 64 ∧ i = q * 64 + r := ⟨i / 64, i % 64, Nat.mod_lt _ (by omega), by omega⟩
    have hq : q < l.length := by omega
    rw [flat_get l q hq r hr, flat_get (l.set k x) q (by simpa using hq) r hr]
    by_cases hqk : k = q
    · subst hqk
      rw [if_pos ⟨by omega, by omega⟩, show k * 64 + r - k * 64 = r by omega]
      simp
    · rw [if_neg (by omega), List.getElem_set_ne hqk]
  · rw [if_neg (by omega), List.getElem?_eq_none (by rw [hl]; omega), List.getElem?_eq_none (by rw [flat_length, List.length_set]; omega)]
theorem own_setCells {e : TypeId} {size n c g : Nat} : ∀ (vs : List Value) (w : World) (xs : List Value) (o : Nat), w.ownsRow 0 e size (.slice (some ⟨g, 0, none⟩) n c) n xs → o + vs.length ≤ n * size →
    (w.setCells g o vs).ownsRow 0 e size (.slice (some ⟨g, 0, none⟩) n c) n (setAll xs o vs)
  | [], _, _, _, h, _ => h
  | v :: vs, w, xs, o, h, hb => by
    simp only [List.length_cons] at hb
    rw [World.setCells, setAll]
    exact own_setCells vs _ _ (o + 1) (h.stored o v).1 (by omega)
theorem Mods.setCells {S : Nat → Prop} {a : World} : ∀ (vs : List Value) (w : World) (b o : Nat), Mods S a w → (S b ∨ a.heap.size ≤ b) → Mods S a (w.setCells b o vs)
  | [], _, _, _, h, _ => h
  | v :: vs, w, b, o, h, hS => by
    rw [World.setCells]
    exact Mods.setCells vs _ b (o + 1) (h.setCell (p := ⟨b, o, none⟩) hS v) hS
theorem Blk.setCells {g : Nat} {t : TypeId} {cs : Array Value} : ∀ (vs : List Value) (w : World) (b o : Nat), Blk w g t cs → g ≠ b → Blk (w.setCells b o vs) g t cs
  | [], _, _, _, h, _ => h
  | v :: vs, w, b, o, h, hne => by
    rw [World.setCells]
    exact Blk.setCells vs _ b (o + 1) (h.far (p := ⟨b, o, none⟩) hne v) hne
namespace ZD

set_option maxRecDepth 100000 in
set_option maxHeartbeats 400000 in
theorem clos_any (s p : Sec) (bp : Nat) (w : World) (hp : Blk w bp 34 p.cs.toArray) :
    Calls Try.prog 64 #[s.agg, .pointer (some ⟨bp, 0, none⟩)] w fun e w' => e = .returned (s.xor p).agg ∧ Below w.heap.size w w' := by
  have hpl := hp.lt
  have Hp := hide hp
  clear hp
  unfold Sec.agg
  go_enter Try.func64, Try.ntmps64
  go_upto_region 1 with (fail)
  generalize hW : (w.alloc _).alloc _ = W2
  have K0 : Hid (Blk W2 w.heap.size 34 s.cs.toArray) := by rw [← hW]; exact hide ((Blk.new w _ _).alloc _)
  have K1 : Hid (Blk W2 (w.heap.size + 1) 34 Sec.zero.cs.toArray) := by
    have := Blk.new (w.alloc (.cells s.cs.toArray 34)) 34 Sec.zero.cs.toArray
    rw [World.size_alloc] at this
    rw [← hW]
    exact hide this
  have Kp : Hid (Blk W2 bp 34 p.cs.toArray) := by rw [← hW]; exact hide ((Hp.out.alloc _).alloc _)
  have hB2 : Below w.heap.size w W2 := by rw [← hW]; exact ((Below.refl _ w).alloc (Nat.le_refl _) _).alloc (by simp) _
  clear hW
  have hpl2 : bp < w.heap.size := hpl
  go_wp2_with (first | (refine wpList_load_mid rfl 34 (.tmp 2) rfl w.heap.size 0 rfl s.cs _ (range_blk s K0.out) Try.underlying34 rfl (sizeSec _) ?_) | (refine wpList_load_mid rfl 34 (.tmp 1) rfl bp 0 rfl p.cs _ (range_blk p Kp.out) Try.underlying34 rfl (sizeSec _) ?_))
  refine (xor_any s p _).mono ?_
  rintro e w3 ⟨rfl, hB3⟩
  have K13 : Hid (Blk w3 (w.heap.size + 1) 34 Sec.zero.cs.toArray) := hide ((hB3.block _ K1.out.lt).trans K1.out)
  have hBB := hB2.trans (hB3.mono hB2.size)
  go_wp2_with (refine wpList_store_row rfl 34 (.tmp 3) (.tmp 6) rfl (w.heap.size + 1) (s.xor p).cs.toArray rfl rfl 34 Sec.zero.cs.toArray K13.out (sizeRow _) (by simp [Sec.len]) (sec_all _) ?_)
  refine bodyPost_ret (v := (s.xor p).agg) ?_ rfl ?_
  · exact results_sec1 (fn := Try.f64) (p := 3) rfl Try.underlying34 sizeS _ (s.xor p) rfl (K13.out.setRow _)
  · exact ⟨rfl, below_setRow hBB (by omega) _⟩

set_option maxRecDepth 100000 in
set_option maxHeartbeats 1000000 in
theorem change_any (z : Zn Sec) (off : Int) (p : Sec) (b bp : Nat) (w : World) (F : Nat → Prop) (hz : At w b z F) (_hn : z.L.length < 65536) (hp : Blk w bp 34 p.cs.toArray) :
    Calls Try.prog 63 #[.pointer (some ⟨b, 0, none⟩), .int .i64 off, .func (.func 64) #[] #[.pointer (some ⟨bp, 0, none⟩)]] w fun e w' =>
      e = .returned (.int .i64 (z.change (Sec.xor · p) off).2) ∧ Does w w' b (z.change (Sec.xor · p) off).1 F := by
  have hz' := hide hz
  obtain ⟨A, c, hb, hFb, hown, hg, hlt⟩ := hz
  have c0 : w.cell? ⟨b, 0, none⟩ = _ := hb.cell 0
  simp only [List.getElem?_toArray, List.getElem?_cons_zero] at c0
  have Hp := hide hp
  clear hp
  by_cases hlo : off < 0
  · have hfin := hide (Zn.change_out (z := z) (Sec.xor · p) off (.inl hlo))
    go_enter Try.func63, Try.ntmps63
    go_wp2
    go_ret
    rw [hfin.out]
    exact ⟨rfl, SDid.same hz'.out⟩
  · by_cases hhi : (z.L.length : Int) ≤ off
    · have hfin := hide (Zn.change_out (z := z) (Sec.xor · p) off (.inr hhi))
      go_enter Try.func63, Try.ntmps63
      go_wp2
      go_ret
      rw [hfin.out]
      exact ⟨rfl, SDid.same hz'.out⟩
    · obtain ⟨k, rfl⟩ := Int.eq_ofNat_of_zero_le (Int.not_lt.1 hlo)
      have hk : k < z.L.length := by omega
      obtain ⟨g, c', c0', hc', ck, hFg, hgb⟩ := row_range hz'.out k hk
      have hA : A = some ⟨g, 0, none⟩ ∧ c = c' := by
        have := c0.symm.trans c0'
        simpa using this
      obtain ⟨rfl, rfl⟩ := hA
      have hfin := hide (Zn.change_in (z := z) (Sec.xor · p) k hk)
      have hgl := hlt g hFg
      have hbl := hb.lt
      have Hck := hide ck
      have Hc0 := hide c0
      have Hcl := hide (clos_any z.L[k] p bp w.drew Hp.out)
      clear c0' ck
      go_enter Try.func63, Try.ntmps63
      go_upto_region 3 with (fail)
      refine Reg.wp_region_reads (fun w' => w'.cell? ⟨b, 0, none⟩ = some (.slice (some ⟨g, 0, none⟩) z.L.length c) ∧ w'.rangeAt g (k * 64) z.L[k].cs) 13 14 (by decide +kernel) (by decide +kernel) ⟨Hc0.out, (World.rangeAt_drew w _ _ _).2 Hck.out⟩ ?_
      simp only [List.take_succ_cons, List.take_zero, List.drop_succ_cons, List.drop_zero]
      iterate 12
        apply Reg.wpReads_step rfl
        · intro w' hS
          obtain ⟨s1, s2⟩ := hS
          go_simp
          first | done | rfl
        intro K hK
        go_simp
        refine hK _ ?_
        clear hK K
      refine Reg.wpReads_load rfl 34 (.tmp 29) rfl g (k * 64) rfl z.L[k].cs _ (fun w' h => h.2) Try.underlying34 rfl (sizeSec _) (fun K hK => ?_)
      go_simp
      refine hK _ ?_
      clear hK K
      refine Reg.wpReads_nil ?_
      refine Reg.wpTail_step rfl (fun K hK => ?_)
      go_simp
      refine Hcl.out.mono ?_
      rintro e w1 ⟨rfl, hB1⟩
      have hB : Below w.heap.size w w1 := ⟨hB1.os, hB1.tape, hB1.output, hB1.size, hB1.block⟩
      have hb1 : Blk w1 b 131 _ := (hB.block b hbl).trans hb
      have hown1 : w1.ownsRow 0 34 64 (.slice (some ⟨g, 0, none⟩) z.L.length c) z.L.length (z.L.flatMap Sec.cs) := own_mods hown (Mods.of_below hB (fun _ => False)) (fun _ _ h => h)
      have hr1 : w1.rangeAt g (k * 64) z.L[k].cs := fun j v hv => (hB.cell (p := ⟨g, k * 64 + j, none⟩) hgl).trans (Hck.out j v hv)
      have d0 : w1.cell? ⟨b, 0, none⟩ = some (.slice (some ⟨g, 0, none⟩) z.L.length c) := hb1.cell 0
      have Hth : Hid (w1.there g (k * 64) (Sec.xor z.L[k] p).cs.toArray.size) := hide (fun j hj => ⟨hr1.isSome j (by simpa [Sec.len] using hj), hown1.frozenAt _⟩)
      go_simp
      refine hK _ _ (fun _ => ⟨d0, hr1⟩) ?_
      have Hown := hide hown1
      have Hb1 := hide hb1
      have HB := hide hB
      clear hK K hown1 hb1 hr1 hB1 hB
      refine Reg.wpTail_list _ _ _ _ (by omega) ?_
      go_wp2_with (refine wpList_store_mid rfl 34 (.tmp 32) (.tmp 31) rfl g (k * 64) (Sec.xor z.L[k] p).cs.toArray rfl rfl Hth.out (sizeRow _) (sec_all _) ?_)
      refine NoPanic.normal ?_
      go_wp2_with fail
      go_ret
      rw [hfin.out]
      refine ⟨rfl, ?_⟩
      have hl : (z.L.set k (Sec.xor z.L[k] p)).length = z.L.length := by simp
      refine SDid.mk' (A := some ⟨g, 0, none⟩) (c := c) (z' := { z with L := z.L.set k (Sec.xor z.L[k] p) }) ?_ ?_ hFb ?_ ?_ hlt
      · simp only [hl]
        exact Hb1.out.setCells _ _ _ _ (fun e => hgb e.symm)
      · exact (Mods.of_below HB.out F).setCells _ _ _ _ (.inl hFg)
      · simp only [hl]
        rw [← setAll_flat _ k hk]
        exact own_setCells _ _ _ _ Hown.out (by simp [Sec.len]; omega)
      · simp only [hl]
        exact fun g' hg' => .inl (hg g' hg')
end ZD
end Go.Proofs.Ytdinbhanekpjoaa
