/-
  The walk of ZoneFills: it answers true, and nothing that was there has turned.
-/
import Derived.Test.YtahlphclighccaaZS
import Derived.Test.YtahlphclighccaaAnchor
import Derived.Test.YtahlphclighccaaFillsPlain
import Derived.Deep.DeepCutAuto
namespace Go.Proofs.Ytahlphclighccaa
open Go.RowKit

/-- What is known of the slice of strings that came in. -/
def Came (w : World) (A : Option Addr) (ss : List ByteArray) : Prop :=
  0 < ss.length → ∃ b off, A = some ⟨b, off, none⟩ ∧ b < w.heap.size ∧ ∀ k (h : k < ss.length), w.cell? ⟨b, off + k, none⟩ = some (.string ss[k])

set_option maxRecDepth 100000 in
set_option maxHeartbeats 4000000 in
theorem fills_any (size : Int) (A : Option Addr) (cap : Nat) (ss : List ByteArray) (w : World) (hA : Came w A ss) (hbig : ss.length ≤ 9223372036854775807) :
    Calls Try.prog 3 #[.int .i64 size, .slice A ss.length cap] w fun e w' => e = .returned (.bool true) ∧ Below w.heap.size w w' := by
  have hA' := hide hA
  clear hA
  by_cases hsz : size < 1 ∨ 64 < size
  · go_enter Try.func3, Try.ntmps3
    go_wp2_with fail
    refine (ZI.anchor_any _).mono ?_
    rintro e w1 ⟨rfl, hb1⟩
    go_wp2_with fail
    refine (ZS.new_no size _ hsz).mono ?_
    rintro e w2 ⟨rfl, rfl⟩
    clear hsz
    go_wp2_with fail
    go_ret
    exact ⟨rfl, hb1⟩
  · by_cases hlen : 80 < ss.length
    · go_enter Try.func3, Try.ntmps3
      go_wp2_with fail
      refine (ZI.anchor_any _).mono ?_
      rintro e w1 ⟨rfl, hb1⟩
      go_wp2_with fail
      refine (ZS.new_any size _ (by omega) (by omega)).mono ?_
      rintro e w2 ⟨rfl, hmade⟩
      obtain ⟨F2, hz2, hb2, hf2⟩ := hmade.below
      clear hsz hmade
      go_wp2_with fail
      go_ret
      exact ⟨rfl, hb1.trans (hb2.mono hb1.size)⟩
    · obtain ⟨s, rfl⟩ := Int.eq_ofNat_of_zero_le (show 0 ≤ size by omega)
      have hs1 : 1 ≤ s := by omega
      have hs2 : s ≤ 64 := by omega
      have hn : ss.length ≤ 80 := by omega
      clear hsz hlen hbig
      go_enter Try.func3, Try.ntmps3
      go_wp2_with fail
      refine (ZI.anchor_any _).mono ?_
      rintro e w1 ⟨rfl, hb1⟩
      go_wp2_with fail
      refine (ZS.new_any (s : Int) _ (by omega) (by omega)).mono ?_
      rintro e w2 ⟨rfl, hmade⟩
      obtain ⟨F2, hz2, hb2, hf2⟩ := hmade.below
      clear hmade
      have hB2 : Below w.heap.size w w2 := hb1.trans (hb2.mono hb1.size)
      rw [← filled_zero s ss] at hz2
      have hF2 : ∀ k, F2 k → w.heap.size ≤ k := fun k hk => Nat.le_trans hb1.size (hf2 k hk)
      clear hb2 hf2
      go_wp2_with fail
      go_loopw [35] (fun i wr => ∃ k : Nat, k ≤ ss.length ∧ i = .int .i64 k ∧ (∃ F : Nat → Prop, ZS.At wr w1.heap.size (filled s ss k) F ∧ ∀ j, F j → w.heap.size ≤ j) ∧ Below w.heap.size w wr) (fun i _ => ss.length - (intOf i).toNat)
      case atStart => exact ⟨0, Nat.zero_le _, rfl, ⟨F2, hz2, hF2⟩, hB2⟩
      case round =>
        obtain ⟨k, hk, rfl, ⟨F, hz, hF⟩, hB⟩ := hrel
        by_cases hlt : k < ss.length
        · obtain ⟨ab, off, rfl, hab, hcell⟩ := hA'.out (by omega)
          have hc := (hB.cell (p := ⟨ab, off + k, none⟩) hab).trans (hcell k hlt)
          clear hcell hA'
          have hzl := filled_len s ss k hk
          by_cases hks : k < s
          · have happ := ZS.append_any (filled s ss k) ss[k] _ wr F hz (by omega)
            rw [filled_in s ss k hlt hks] at happ
            have Happ := hide happ
            clear happ hz hzl
            go_wp2_with fail
            refine Happ.out.mono ?_
            rintro e w3 ⟨rfl, hd⟩
            obtain ⟨F3, hz3, hB3, hs3, hF3⟩ := hd.below hB hB.size hF
            clear hd
            go_wp2_with fail
            go_roundw
            case rel => exact ⟨k + 1, by omega, by go_num, ⟨F3, hz3, hF3⟩, hB3⟩
            case measure => simp [intOf]; omega
          · have happ := ZS.append_any (filled s ss k) ss[k] _ wr F hz (by omega)
            rw [filled_out s ss k hs1 hlt (by omega)] at happ
            have Happ := hide happ
            clear happ hz hzl
            go_wp2_with fail
            refine Happ.out.mono ?_
            rintro e w3 ⟨rfl, hd⟩
            obtain ⟨F3, hz3, hB3, hs3, hF3⟩ := hd.below hB hB.size hF
            clear hd
            go_wp2_with fail
            go_roundw
            case rel => exact ⟨k + 1, by omega, by go_num, ⟨F3, hz3, hF3⟩, hB3⟩
            case measure => simp [intOf]; omega
        · obtain rfl : k = ss.length := by omega
          go_upto_region 13 with (fail)
          go_cut [75, 76] (fun v i wx => v = .int .i64 (min ss.length s : Nat) ∧ i = .int .i64 0 ∧ wx = wr)
          case first =>
            by_cases hm : ss.length ≤ s
            · have e := hide (show (min ss.length s) = ss.length by omega)
              go_wp2_with fail
              all_goals first | omega | skip
              all_goals go_meet
              all_goals exact ⟨by rw [e.out], rfl, rfl⟩
            · have e := hide (show (min ss.length s) = s by omega)
              go_wp2_with fail
              all_goals first | omega | skip
              all_goals go_meet
              all_goals exact ⟨by rw [e.out], rfl, rfl⟩
          case rest =>
            obtain ⟨rfl, rfl, rfl⟩ := hcut
            go_wp2_with fail
            go_loop [76] (fun i => ∃ k : Nat, k ≤ min ss.length s ∧ i = .int .i64 k) (fun i => min ss.length s - (intOf i).toNat)
            case atStart => exact ⟨0, Nat.zero_le _, rfl⟩
            case round =>
              obtain ⟨k, hk', rfl⟩ := hrel
              by_cases hlt' : k < min ss.length s
              · have hkl : k < ss.length := by omega
                obtain ⟨ab, off, rfl, hab, hcell⟩ := hA'.out (by omega)
                have hc := (hB.cell (p := ⟨ab, off + k, none⟩) hab).trans (hcell k hkl)
                clear hcell hA'
                have hrd := ZS.read_any (filled s ss ss.length) k _ wc F hz (by rw [filled_len s ss _ (Nat.le_refl _)]; omega)
                rw [filled_read s ss k ss.length _ (Nat.le_refl _) hlt' hkl] at hrd
                have Hrd := hide hrd
                clear hrd hz
                go_wp2_with fail
                refine Hrd.out.mono ?_
                rintro e w3 ⟨rfl, rfl⟩
                go_wp2_with fail
                go_round
                case rel => exact ⟨k + 1, by omega, by go_num⟩
                case measure => simp [intOf]; omega
              · obtain rfl : k = min ss.length s := by omega
                obtain ⟨A', c', k0, k2, k3⟩ := hz.cells
                have hst := filled_state s ss ss.length hs1
                have hrs := ZS.reset_any _ _ _ F hz
                rw [filled_reset s ss] at hrs
                have Hrs := hide hrs
                clear hrs hz k0 k2
                go_wp2_with fail
                refine (ZS.state_any _ _ _ k3).mono ?_
                rintro e w3 ⟨rfl, rfl⟩
                by_cases hle : s ≤ ss.length
                · have hst' : ((filled s ss ss.length).state == 2) = true := by rw [hst]; simpa using hle
                  clear hst
                  go_wp2_with fail
                  refine Hrs.out.mono ?_
                  rintro e w4 ⟨rfl, hd⟩
                  obtain ⟨F4, hz4, hB4, hs4, hF4⟩ := hd.below hB hB.size hF
                  clear hd
                  obtain ⟨A4, c4, m0, m2, m3⟩ := hz4.cells
                  have m0' : w4.cell? ⟨w1.heap.size, 0, none⟩ = some (.slice A4 0 c4) := m0
                  have m3' : w4.cell? ⟨w1.heap.size, 3, none⟩ = some (.int .i64 0) := m3
                  clear m0 m2 m3 hz4
                  go_wp2_with fail
                  refine (ZS.len_any _ _ _ _ _ m0').mono ?_
                  rintro e w5 ⟨rfl, rfl⟩
                  go_wp2_with fail
                  refine (ZS.state_any _ _ _ m3').mono ?_
                  rintro e w5 ⟨rfl, rfl⟩
                  go_wp2_with fail
                  go_ret
                  exact ⟨rfl, hB4⟩
                · have hst' : ((filled s ss ss.length).state == 2) = false := by rw [hst]; simpa using hle
                  clear hst
                  go_wp2_with fail
                  refine Hrs.out.mono ?_
                  rintro e w4 ⟨rfl, hd⟩
                  obtain ⟨F4, hz4, hB4, hs4, hF4⟩ := hd.below hB hB.size hF
                  clear hd
                  obtain ⟨A4, c4, m0, m2, m3⟩ := hz4.cells
                  have m0' : w4.cell? ⟨w1.heap.size, 0, none⟩ = some (.slice A4 0 c4) := m0
                  have m3' : w4.cell? ⟨w1.heap.size, 3, none⟩ = some (.int .i64 0) := m3
                  clear m0 m2 m3 hz4
                  go_wp2_with fail
                  refine (ZS.len_any _ _ _ _ _ m0').mono ?_
                  rintro e w5 ⟨rfl, rfl⟩
                  go_wp2_with fail
                  refine (ZS.state_any _ _ _ m3').mono ?_
                  rintro e w5 ⟨rfl, rfl⟩
                  go_wp2_with fail
                  go_ret
                  exact ⟨rfl, hB4⟩
end Go.Proofs.Ytahlphclighccaa
