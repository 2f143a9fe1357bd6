/-
  A device's Flush and Revive: loops over its zones.
-/
import Derived.Test.YtdinbhanekpjoaaDM5
namespace Go.Proofs.Ytdinbhanekpjoaa
open Go.RowKit
namespace Dv
/-- The first k zones turned by f. -/
def mapTo (D : Dv) (f : Nat → Zn Sec → Zn Sec) (k : Nat) : Dv := { D with zs := D.zs.mapIdx fun i z => if i < k then f i z else z }
theorem mapTo_zero (D : Dv) (f : Nat → Zn Sec → Zn Sec) : D.mapTo f 0 = D := by
  have : D.zs.mapIdx (fun i z => if i < 0 then f i z else z) = D.zs := by
    apply List.ext_getElem?
    intro i
    rw [List.getElem?_mapIdx]
    cases D.zs[i]? <;> simp
  unfold mapTo
  rw [this]
theorem mapTo_length (D : Dv) (f : Nat → Zn Sec → Zn Sec) (k : Nat) : (D.mapTo f k).zs.length = D.zs.length := by simp [mapTo]
theorem mapTo_get (D : Dv) (f : Nat → Zn Sec → Zn Sec) (k : Nat) (hk : k < D.zs.length) : (D.mapTo f k).zs[k]'(by rw [mapTo_length]; exact hk) = D.zs[k] := by simp [mapTo]
theorem mapTo_succ (D : Dv) (f : Nat → Zn Sec → Zn Sec) (k : Nat) (hk : k < D.zs.length) : (D.mapTo f k).put k (f k D.zs[k]) = D.mapTo f (k + 1) := by
  have : (D.zs.mapIdx fun i z => if i < k then f i z else z).set k (f k D.zs[k]) = D.zs.mapIdx fun i z => if i < k + 1 then f i z else z := by
    apply List.ext_getElem?
    intro i
    rw [List.getElem?_set, List.getElem?_mapIdx, List.getElem?_mapIdx]
    by_cases h : k = i
    · subst h
      rw [if_pos rfl, if_pos (by simpa using hk), List.getElem?_eq_getElem hk]
      simp
    · rw [if_neg h]
      by_cases h2 : i < k
      · rw [show (fun z => if i < k then f i z else z) = f i from by funext z; rw [if_pos h2], show (fun z => if i < k + 1 then f i z else z) = f i from by funext z; rw [if_pos (by omega)]]
      · rw [show (fun z => if i < k then f i z else z) = id from by funext z; rw [if_neg h2]; rfl, show (fun z => if i < k + 1 then f i z else z) = id from by funext z; rw [if_neg (by omega)]; rfl]
  unfold put mapTo
  rw [this]
def flush (D : Dv) : Dv × Int := if D.down = true then (D, 34) else (D.tick.mapTo (fun _ z => z.flush) D.zs.length, 0)
theorem flush_down {D : Dv} (h : D.down = true) : D.flush = (D, 34) := by rw [flush, if_pos h]
theorem flush_up {D : Dv} (h : ¬ D.down = true) : D.flush = (D.tick.mapTo (fun _ z => z.flush) D.zs.length, 0) := by rw [flush, if_neg h]
def kept (keep : List Int) (i : Nat) : Int := keep.getD i 0
def revive (D : Dv) (keep : List Int) : Dv := if D.down = true then { D.mapTo (fun i z => z.crash (kept keep i)) D.zs.length with down := false } else D
theorem revive_up {D : Dv} (keep : List Int) (h : ¬ D.down = true) : D.revive keep = D := by rw [revive, if_neg h]
theorem revive_down {D : Dv} (keep : List Int) (h : D.down = true) : D.revive keep = { D.mapTo (fun i z => z.crash (kept keep i)) D.zs.length with down := false } := by rw [revive, if_pos h]
end Dv
namespace DM
section
variable {w : World} {d : Nat} {D : Dv} {F : Nat → Prop} {A : Option Addr} {c : Nat} {bs : List Nat} {Fs : Nat → Nat → Prop}
set_option maxHeartbeats 1000000 in
theorem flush_any (h : DevIs w d D F A c bs Fs) (hn : D.n < 65536) (hl : D.zs.length < 65536) : Calls Try.prog 19 #[.pointer (some ⟨d, 0, none⟩)] w fun e w' => e = .returned (.int .i64 D.flush.2) ∧ DDid w w' d D.flush.1 F A c bs := by
  obtain ⟨c0, -, -, c3, c4, f3, -⟩ := h.cells
  have h' := hide h
  by_cases hd : D.down = true
  · have hfin := hide (Dv.flush_down hd)
    rw [hd] at c4
    clear h hd
    go_enter Try.func19, Try.ntmps19
    go_wp2_with fail
    go_ret
    rw [hfin.out]
    exact ⟨rfl, h'.out.same⟩
  · have hfin := hide (Dv.flush_up hd)
    have Hc : Hid (DevIs (w.setCell ⟨d, 3, none⟩ (.int .i64 ((D.n : Int) + 1))) d D.tick F A c bs Fs) := hide h.count
    have Hm := hide ((Mods.refl F w).setCell (p := ⟨d, 3, none⟩) (.inl h.inF.1) (.int .i64 ((D.n : Int) + 1)))
    rw [Bool.not_eq_true] at hd
    rw [hd] at c4
    clear h hd
    go_enter Try.func19, Try.ntmps19
    go_wp2_with fail
    generalize w.setCell ⟨d, 3, none⟩ (.int .i64 ((D.n : Int) + 1)) = w1 at Hc Hm ⊢
    clear c3 c4 f3 c0
    go_loopw [4, 21] (fun _ i wr => ∃ k : Nat, k ≤ D.zs.length ∧ i = .int .i64 k ∧ DDid w1 wr d (D.tick.mapTo (fun _ z => z.flush) k) F A c bs) (fun _ i _ => D.zs.length - (intOf i).toNat)
    case atStart => exact ⟨0, by omega, rfl, by rw [Dv.mapTo_zero]; exact Hc.out.same⟩
    case round =>
      obtain ⟨k, hk, rfl, F1, Fs1, h1, hm1, hF1⟩ := hrel
      by_cases hlt : k < D.zs.length
      · have hlk : (D.tick.mapTo (fun _ z => z.flush) k).zs.length = D.zs.length := Dv.mapTo_length _ _ _
        have hk1 : k < (D.tick.mapTo (fun _ z => z.flush) k).zs.length := by rw [hlk]; exact hlt
        obtain ⟨g, rfl, hlc, hk', c0, cg, hz⟩ := ready h1 hk1
        have Hz := hide (ZD.flush_any _ _ _ _ hz)
        have H1 := hide h1
        have Hget : Hid ((D.tick.mapTo (fun _ z => z.flush) k).zs[k] = D.zs[k]) := hide (Dv.mapTo_get D.tick _ k hlt)
        have Hsucc := hide (Dv.mapTo_succ D.tick (fun _ z => z.flush) k hlt)
        rw [hlk] at c0 hlc
        clear h1 hz hlk c0
        go_wp2_with fail
        refine Hz.out.mono ?_
        rintro e w2 ⟨rfl, hd2⟩
        have Hd2 := hide hd2
        clear hd2
        go_wp2_with fail
        go_roundw
        case rel =>
          refine ⟨k + 1, by omega, by go_num, ?_⟩
          have := H1.out.step hk1 hk' Hd2.out
          rw [Hget.out] at this
          rw [← Hsucc.out]
          exact DDid.join hm1 hF1 this
        case measure => simp [intOf]; omega
      · obtain rfl : k = D.zs.length := by omega
        have H1 : Hid (DDid w1 wr d (D.tick.mapTo (fun _ z => z.flush) D.zs.length) F A c bs) := hide ⟨F1, Fs1, h1, hm1, hF1⟩
        clear h1 hm1 hF1
        go_wp2_with fail
        go_ret
        rw [hfin.out]
        exact ⟨rfl, DDid.join Hm.out (fun _ h => .inl h) H1.out⟩

/-- What is known of the ints that came in: keep. -/
def CameInts (w : World) (K : Option Addr) (keep : List Int) : Prop :=
  0 < keep.length → ∃ b off, K = some ⟨b, off, none⟩ ∧ b < w.heap.size ∧ ∀ i (h : i < keep.length), w.cell? ⟨b, off + i, none⟩ = some (.int .i64 keep[i])

set_option maxRecDepth 100000 in
set_option maxHeartbeats 1000000 in
theorem revive_any (h : DevIs w d D F A c bs Fs) (hl : D.zs.length < 65536) (hL : ∀ x ∈ D.zs, x.L.length < 65536 ∧ x.safe ≤ x.L.length) (K : Option Addr) (kc : Nat) (keep : List Int) (hK : CameInts w K keep) (hKF : 0 < keep.length → ∀ b off, K = some ⟨b, off, none⟩ → ¬ F b) (hkl : keep.length ≤ maxLen) :
    Calls Try.prog 24 #[.pointer (some ⟨d, 0, none⟩), .slice K keep.length kc] w fun e w' => e = .returned (.tuple #[]) ∧ DDid w w' d (D.revive keep) F A c bs := by
  unfold maxLen at hkl
  obtain ⟨c0, -, -, -, c4, -, -⟩ := h.cells
  have h' := hide h
  have HKc := hide hK
  have HKF := hide hKF
  by_cases hd : D.down = true
  · have hfin := hide (Dv.revive_down keep hd)
    have HL := hide hL
    rw [hd] at c4
    clear h hd hK hKF hL
    go_enter Try.func24, Try.ntmps24
    go_wp2_with fail
    go_loopw [4, 5, 6, 17] (fun _ _ _ i wr => ∃ k : Nat, k ≤ D.zs.length ∧ i = .int .i64 k ∧ DDid w wr d (D.mapTo (fun i z => z.crash (Dv.kept keep i)) k) F A c bs) (fun _ _ _ i _ => D.zs.length - (intOf i).toNat)
    case atStart => exact ⟨0, by omega, rfl, by rw [Dv.mapTo_zero]; exact h'.out.same⟩
    case round =>
      obtain ⟨k, hk, rfl, F1, Fs1, h1, hm1, hF1⟩ := hrel
      by_cases hlt : k < D.zs.length
      · have hlk : (D.mapTo (fun i z => z.crash (Dv.kept keep i)) k).zs.length = D.zs.length := Dv.mapTo_length _ _ _
        have hk1 : k < (D.mapTo (fun i z => z.crash (Dv.kept keep i)) k).zs.length := by rw [hlk]; exact hlt
        obtain ⟨g, rfl, hlc, hk', c0', cg, hz⟩ := ready h1 hk1
        have Hget : Hid ((D.mapTo (fun i z => z.crash (Dv.kept keep i)) k).zs[k] = D.zs[k]) := hide (Dv.mapTo_get D _ k hlt)
        have hLk := HL.out _ (List.getElem_mem hlt)
        have Hz := hide (fun q => ZD.crash_any _ q _ _ _ hz (by rw [Hget.out]; exact hLk.1) (by rw [Hget.out]; exact hLk.2))
        have H1 := hide h1
        have Hsucc := hide (Dv.mapTo_succ D (fun i z => z.crash (Dv.kept keep i)) k hlt)
        rw [hlk] at c0' hlc
        clear h1 hz hlk c0' hLk
        by_cases hkk : k < keep.length
        · obtain ⟨bk, ok, rfl, hbk, hck⟩ := HKc.out (by omega)
          have ck : wr.cell? ⟨bk, ok + k, none⟩ = some (.int .i64 keep[k]) := (hm1.cell (p := ⟨bk, ok + k, none⟩) hbk (HKF.out (by omega) _ _ rfl)).trans (hck k hkk)
          have Hkept : Hid (Dv.kept keep k = keep[k]) := hide (by simp [Dv.kept, hkk])
          have dk : decide ((k : Int) < (keep.length : Int)) = true := decide_eq_true (by omega)
          have dk' : decide (k < keep.length) = true := decide_eq_true hkk
          clear hck
          go_wp2_with fail
          refine (Hz.out _).mono ?_
          rintro e w2 ⟨rfl, hd2⟩
          have Hd2 := hide hd2
          clear hd2
          go_wp2_with fail
          go_roundw
          case rel =>
            refine ⟨k + 1, by omega, by go_num, ?_⟩
            have := H1.out.step hk1 hk' Hd2.out
            rw [Hget.out, ← Hkept.out] at this
            rw [← Hsucc.out]
            exact DDid.join hm1 hF1 this
          case measure => simp [intOf]; omega
        · have Hkept : Hid (Dv.kept keep k = 0) := hide (by simp [Dv.kept, show keep.length ≤ k by omega])
          have dk : decide ((k : Int) < (keep.length : Int)) = false := decide_eq_false (by omega)
          have dk' : decide (k < keep.length) = false := decide_eq_false hkk
          clear hkk
          go_wp2_with fail
          refine (Hz.out _).mono ?_
          rintro e w2 ⟨rfl, hd2⟩
          have Hd2 := hide hd2
          clear hd2
          go_wp2_with fail
          go_roundw
          case rel =>
            refine ⟨k + 1, by omega, by go_num, ?_⟩
            have := H1.out.step hk1 hk' Hd2.out
            rw [Hget.out, ← Hkept.out] at this
            rw [← Hsucc.out]
            exact DDid.join hm1 hF1 this
          case measure => simp [intOf]; omega
      · obtain rfl : k = D.zs.length := by omega
        obtain ⟨-, -, -, -, q4, -, g4⟩ := h1.cells
        have H1 := hide h1
        clear h1 c0 c4
        go_wp2_with fail
        go_end0
        rw [hfin.out]
        exact ⟨rfl, DDid.join hm1 hF1 ⟨F1, Fs1, H1.out.downTo false, (Mods.refl F1 wr).setCell (.inl H1.out.inF.1) _, fun _ h => .inl h⟩⟩
  · have hfin := hide (Dv.revive_up keep hd)
    rw [Bool.not_eq_true] at hd
    rw [hd] at c4
    clear h hd hK hKF hL
    go_enter Try.func24, Try.ntmps24
    go_wp2_with fail
    refine bodyPost_ret (results_none rfl _ _ _) rfl ?_
    rw [hfin.out]
    exact ⟨rfl, h'.out.same⟩
end
end DM
end Go.Proofs.Ytdinbhanekpjoaa
