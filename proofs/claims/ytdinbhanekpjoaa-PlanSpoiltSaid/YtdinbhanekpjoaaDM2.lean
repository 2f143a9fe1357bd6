/-
  A device's methods that hand on to a zone: opened, Reset, Finish, Fail, Read, Append, Spoil.
-/
import Derived.Test.YtdinbhanekpjoaaDM
namespace Go.Proofs.Ytdinbhanekpjoaa
open Go.RowKit
namespace Dv
def countTo (D : Dv) (k : Nat) : Nat := (D.zs.take k).countP fun z => z.state == 1
theorem countTo_zero (D : Dv) : D.countTo 0 = 0 := by simp [countTo]
theorem countTo_all (D : Dv) : D.countTo D.zs.length = D.opened := by simp [countTo, opened]
theorem countTo_succ (D : Dv) (k : Nat) (hk : k < D.zs.length) : D.countTo (k + 1) = D.countTo k + if D.zs[k].state = 1 then 1 else 0 := by
  unfold countTo
  rw [List.take_succ_eq_append_getElem hk, List.countP_append]
  by_cases h : D.zs[k].state = 1 <;> simp [h]
theorem countTo_le (D : Dv) (k : Nat) : D.countTo k ≤ D.zs.length := by
  unfold countTo
  exact Nat.le_trans List.countP_le_length (List.length_take_le' _ _)
def answer (D : Dv) (z : Int) (f : Zn Sec → Zn Sec × Int) : Dv × Int :=
  if (D.begin_ z).2 ≠ 0 then ((D.begin_ z).1, (D.begin_ z).2) else
  match D.zs[z.toNat]? with
  | some x => (D.tick.put z.toNat (f x).1, (f x).2)
  | none => (D, 0)
theorem answer_no {D : Dv} {z : Int} (f : Zn Sec → Zn Sec × Int) (h : ¬ (D.begin_ z).2 = 0) : D.answer z f = ((D.begin_ z).1, (D.begin_ z).2) := by rw [answer, if_pos h]
theorem answer_in {D : Dv} {k : Nat} (f : Zn Sec → Zn Sec × Int) (h : ¬ D.down = true) (hk : k < D.zs.length) : D.answer (k : Int) f = (D.tick.put k (f D.zs[k]).1, (f D.zs[k]).2) := by
  rw [answer, begin_in k h hk, if_neg (by simp)]
  simp [hk]
def reset (D : Dv) (z : Int) : Dv × Int := D.answer z Zn.reset
def finish (D : Dv) (z : Int) : Dv × Int := D.answer z Zn.finish
theorem begin_zero {D : Dv} {z : Int} (h : (D.begin_ z).2 = 0) : ¬ D.down = true ∧ ∃ k : Nat, z = k ∧ k < D.zs.length := by
  unfold begin_ at h
  split at h
  · simp at h
  · split at h
    · simp at h
    · rename_i h1 h2
      exact ⟨h1, z.toNat, by omega, by omega⟩
end Dv
namespace DM
section
variable {w : World} {d : Nat} {D : Dv} {F : Nat → Prop} {A : Option Addr} {c : Nat} {bs : List Nat} {Fs : Nat → Nat → Prop}
set_option maxHeartbeats 400000 in
theorem opened_any (h : DevIs w d D F A c bs Fs) (hl : D.zs.length < 65536) : Calls Try.prog 60 #[.pointer (some ⟨d, 0, none⟩)] w fun e w' => e = .returned (.int .i64 (D.opened : Int)) ∧ w = w' := by
  obtain ⟨c0, -⟩ := h.cells
  have h' := hide h
  clear h
  go_enter Try.func60, Try.ntmps60
  go_wp2_with fail
  go_loop [3, 5, 11] (fun n _ i => ∃ k : Nat, k ≤ D.zs.length ∧ i = .int .i64 k ∧ n = .int .i64 (D.countTo k : Int)) (fun _ _ i => D.zs.length - (intOf i).toNat)
  case atStart => exact ⟨0, by omega, rfl, by rw [Dv.countTo_zero]; rfl⟩
  case round =>
    obtain ⟨k, hk, rfl, rfl⟩ := hrel
    have hcl := D.countTo_le k
    by_cases hlt : k < D.zs.length
    · have Hsn := hide (D.countTo_succ k hlt)
      obtain ⟨g, rfl, hlc, hk', cg, -⟩ := h'.out.at_ hlt
      obtain ⟨zA, zc, hzb, -⟩ := h'.out.zone k hlt hk'
      have z3 : w.cell? ⟨bs[k], 3, none⟩ = some (.int .i64 D.zs[k].state) := hzb.cell 3
      have Hs := hide (ZD.state_any bs[k] _ w z3)
      clear hzb z3
      by_cases hs : D.zs[k].state = 1
      · have es : (D.zs[k].state == 1) = true := beq_iff_eq.2 hs
        have Hs1 := hide hs
        clear hs
        go_wp2_with fail
        refine Hs.out.mono ?_
        rintro e w' ⟨rfl, rfl⟩
        go_wp2_with fail
        go_round
        case rel => exact ⟨k + 1, by omega, by go_num, by rw [Hsn.out, if_pos Hs1.out]; go_num⟩
        case measure => simp [intOf]; omega
      · have es : (D.zs[k].state == 1) = false := beq_eq_false_iff_ne.2 hs
        have Hs1 := hide hs
        clear hs
        go_wp2_with fail
        refine Hs.out.mono ?_
        rintro e w' ⟨rfl, rfl⟩
        go_wp2_with fail
        go_round
        case rel => exact ⟨k + 1, by omega, by go_num, by rw [Hsn.out, if_neg Hs1.out]; rfl⟩
        case measure => simp [intOf]; omega
    · obtain rfl : k = D.zs.length := by omega
      have Ha := hide (D.countTo_all)
      go_wp2_with fail
      go_ret
      rw [Ha.out]
      exact ⟨rfl, rfl⟩
/-- What stands ready at zone k: the row's cell, and the zone. -/
theorem ready (h : DevIs w d D F A c bs Fs) {k : Nat} (hk : k < D.zs.length) : ∃ g, A = some ⟨g, 0, none⟩ ∧ D.zs.length ≤ c ∧ ∃ (hk' : k < bs.length), w.cell? ⟨d, 0, none⟩ = some (.slice A D.zs.length c) ∧ w.cell? ⟨g, k, none⟩ = some (.pointer (some ⟨bs[k], 0, none⟩)) ∧ ZD.At w bs[k] D.zs[k] (Fs k) := by
  obtain ⟨g, hA, hlc, hk', cg, -⟩ := h.at_ hk
  exact ⟨g, hA, hlc, hk', h.cells.1, cg, h.zone k hk hk'⟩

set_option maxHeartbeats 400000 in
theorem reset_any (h : DevIs w d D F A c bs Fs) (hn : D.n < 65536) (z : Int) : Calls Try.prog 31 #[.pointer (some ⟨d, 0, none⟩), .int .i64 z] w fun e w' => e = .returned (.int .i64 (D.reset z).2) ∧ DDid w w' d (D.reset z).1 F A c bs := by
  have Hb := hide (begin_any h hn z)
  clear h
  by_cases h0 : (D.begin_ z).2 = 0
  · obtain ⟨hd, k, rfl, hk⟩ := Dv.begin_zero h0
    have hfin : Hid (D.reset (k : Int) = (D.tick.put k (Zn.reset D.zs[k]).1, (Zn.reset D.zs[k]).2)) := hide (Dv.answer_in Zn.reset hd hk)
    have Hbe := hide (Dv.begin_in k hd hk)
    clear h0 hd
    go_enter Try.func31, Try.ntmps31
    go_wp2_with fail
    refine Hb.out.mono ?_
    rw [Hbe.out]
    rintro e w1 ⟨rfl, F1, Fs1, h1, hm1, hF1⟩
    have hk1 : k < D.tick.zs.length := hk
    obtain ⟨g, rfl, hlc, hk', c0, cg, hz⟩ := ready h1 hk1
    have Hz := hide (ZD.reset_any _ _ _ _ hz)
    have H1 := hide h1
    have hlen : D.tick.zs.length = D.zs.length := rfl
    rw [hlen] at c0 hlc
    clear h1 hz hlen
    go_wp2_with fail
    refine Hz.out.mono ?_
    rintro e w2 ⟨rfl, hd2⟩
    go_wp2_with fail
    go_ret
    rw [hfin.out]
    exact ⟨rfl, DDid.join hm1 hF1 (H1.out.step hk1 hk' hd2)⟩
  · have hfin : Hid (D.reset z = ((D.begin_ z).1, (D.begin_ z).2)) := hide (Dv.answer_no Zn.reset h0)
    have e0 : ((D.begin_ z).2 != 0) = true := by simpa using h0
    clear h0
    go_enter Try.func31, Try.ntmps31
    go_wp2_with fail
    refine Hb.out.mono ?_
    rintro e w1 ⟨rfl, hd1⟩
    go_wp2_with fail
    go_ret
    rw [hfin.out]
    exact ⟨rfl, hd1⟩

set_option maxHeartbeats 400000 in
theorem finish_any (h : DevIs w d D F A c bs Fs) (hn : D.n < 65536) (z : Int) : Calls Try.prog 32 #[.pointer (some ⟨d, 0, none⟩), .int .i64 z] w fun e w' => e = .returned (.int .i64 (D.finish z).2) ∧ DDid w w' d (D.finish z).1 F A c bs := by
  have Hb := hide (begin_any h hn z)
  clear h
  by_cases h0 : (D.begin_ z).2 = 0
  · obtain ⟨hd, k, rfl, hk⟩ := Dv.begin_zero h0
    have hfin : Hid (D.finish (k : Int) = (D.tick.put k (Zn.finish D.zs[k]).1, (Zn.finish D.zs[k]).2)) := hide (Dv.answer_in Zn.finish hd hk)
    have Hbe := hide (Dv.begin_in k hd hk)
    clear h0 hd
    go_enter Try.func32, Try.ntmps32
    go_wp2_with fail
    refine Hb.out.mono ?_
    rw [Hbe.out]
    rintro e w1 ⟨rfl, F1, Fs1, h1, hm1, hF1⟩
    have hk1 : k < D.tick.zs.length := hk
    obtain ⟨g, rfl, hlc, hk', c0, cg, hz⟩ := ready h1 hk1
    have Hz := hide (ZD.finish_any _ _ _ _ hz)
    have H1 := hide h1
    have hlen : D.tick.zs.length = D.zs.length := rfl
    rw [hlen] at c0 hlc
    clear h1 hz hlen
    go_wp2_with fail
    refine Hz.out.mono ?_
    rintro e w2 ⟨rfl, hd2⟩
    go_wp2_with fail
    go_ret
    rw [hfin.out]
    exact ⟨rfl, DDid.join hm1 hF1 (H1.out.step hk1 hk' hd2)⟩
  · have hfin : Hid (D.finish z = ((D.begin_ z).1, (D.begin_ z).2)) := hide (Dv.answer_no Zn.finish h0)
    have e0 : ((D.begin_ z).2 != 0) = true := by simpa using h0
    clear h0
    go_enter Try.func32, Try.ntmps32
    go_wp2_with fail
    refine Hb.out.mono ?_
    rintro e w1 ⟨rfl, hd1⟩
    go_wp2_with fail
    go_ret
    rw [hfin.out]
    exact ⟨rfl, hd1⟩
end
end DM
end Go.Proofs.Ytdinbhanekpjoaa
