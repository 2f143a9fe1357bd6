/-
  The walk of ZoneFailed: it answers true, and nothing that was there has turned.
-/
import Derived.Test.YtahlphclighccaaPlay
namespace Go.Proofs.Ytahlphclighccaa
open Go.RowKit

theorem Rel.start {w w1 w2 : World} {b : Nat} {s : Int} (hB : Below w.heap.size w w1) (hm : ZI.Made w1 w2 b (Zn.new s)) :
    Rel w w2.heap.size b (Zn.new s) (Zn.new s) (w2.alloc (.cells #[.slice none 0 0, .int .i64 s, .int .i64 0, .int .i64 0, .bool false] 49)) := by
  obtain ⟨F, hz, hb, hf⟩ := hm.below
  have hlt : ∀ k, F k → k < w2.heap.size := by obtain ⟨_, _, _, _, _, _, hl⟩ := hz; exact hl
  have hs1 := hB.size
  have hs2 := hb.size
  refine ⟨none, 0, F, fun _ => False, ⟨hz.alloc _, ⟨World.ownsRow_nil _ _ _ _, fun g hg => by simp [Value.ownBlock] at hg⟩, fun _ _ h => h, fun _ h => h.elim⟩, Blk.new _ _ _, fun h => by have := hlt _ h; omega, fun h => h,
    fun k hk => by have := hf k hk; omega, fun _ h => h.elim, (hB.trans (hb.mono hs1)).alloc (by omega) _, by omega⟩

/-- The zone alone has taken a step. -/
theorem Rel.zone {w wr w3 : World} {g b c : Nat} {A : Option Addr} {F G : Nat → Prop} {z z' u : Zn Int} (hB : Both wr b z A c u F G) (hg : Blk wr g 49 #[.slice A u.L.length c, .int .i64 u.size, .int .i64 (u.safe : Int), .int .i64 u.state, .bool u.fin])
    (hFg : ¬ F g) (hGg : ¬ G g) (hF : ∀ k, F k → w.heap.size ≤ k) (hG : ∀ k, G k → w.heap.size ≤ k) (hbel : Below w.heap.size w wr) (hgw : w.heap.size ≤ g) (hd : ZI.Does wr w3 b z' F) : Rel w g b z' u w3 := by
  have hr := refThen hB hd
  obtain ⟨F', hat, hm, hF'⟩ := hd
  have hs := hm.size
  have hgl := hg.lt
  have hbs := hbel.size
  refine ⟨A, c, F', G, ⟨hat, hr, fun k hk hk2 => ?_, fun k hk => Nat.lt_of_lt_of_le (hB.old k hk) hs⟩, hg.mods hm hFg, fun h => ?_, hGg, fun k hk => ?_, hG, hbel.trans (hm.below hbs hF), hgw⟩
  · rcases hF' k hk with h | h
    · exact hB.apart k h hk2
    · have := hB.old k hk2; omega
  · rcases hF' g h with h | h
    · exact hFg h
    · omega
  · rcases hF' k hk with h | h
    · exact hF k h
    · omega

theorem Rel.alloc {w wr : World} {g b : Nat} {z u : Zn Int} (h : Rel w g b z u wr) (o : Obj) : Rel w g b z u (wr.alloc o) := by
  obtain ⟨A, c, F, G, hB, hg, hFg, hGg, hF, hG, hbel, hgw⟩ := h
  exact ⟨A, c, F, G, hB.below ((Below.refl _ wr).alloc (Nat.le_refl _) o), hg.alloc o, hFg, hGg, hF, hG, hbel.alloc hbel.size o, hgw⟩

/-- A step whose answer is thrown away: the zone has turned, the document's is as it was. -/
theorem Rel.kept {w wr w1 w3 : World} {g b c c' : Nat} {A A' : Option Addr} {F G F' G' : Nat → Prop} {z z' u u' : Zn Int} {T : TypeId} (hb : Below w.heap.size w wr) (hw1 : Below wr.heap.size wr w1)
    (hg : Blk w3 g T #[.slice A u.L.length c, .int .i64 u.size, .int .i64 (u.safe : Int), .int .i64 u.state, .bool u.fin]) (hT : T = 49) (hF : ∀ k, F k → w.heap.size ≤ k) (hG : ∀ k, G k → w.heap.size ≤ k)
    (hFg : ¬ F g) (hGg : ¬ G g) (hlt : g < wr.heap.size) (hgw : w.heap.size ≤ g) (h3 : Both w3 b z' A' c' u' F' G') (hm : Mods F w1 w3) (hF3 : ∀ k, F' k → F k ∨ w1.heap.size ≤ k) (hB : Both wr b z A c u F G) : Rel w g b z' u w3 := by
  subst hT
  have hs := hw1.size
  have hs2 := hb.size
  have hs3 := hm.size
  have hB1 := hB.below hw1
  refine ⟨A, c, F', G, ⟨h3.zone, hB1.ref.mods hm (fun k hk _ hf => hB.apart k hf hk), fun k hk hk2 => ?_, fun k hk => Nat.lt_of_lt_of_le (hB1.old k hk) hs3⟩, hg, fun h => ?_, hGg, fun k hk => ?_, hG, ?_, hgw⟩
  · rcases hF3 k hk with h | h
    · exact hB.apart k h hk2
    · have := hB.old k hk2; omega
  · rcases hF3 g h with h | h
    · exact hFg h
    · omega
  · rcases hF3 k hk with h | h
    · exact hF k h
    · omega
  · have hb1 : Below w.heap.size w w1 := hb.trans (hw1.mono hs2)
    exact hb1.trans (hm.below hb1.size hF)

theorem stepZ_failed (z : Zn Int) (k x y : Int) (h : z.state = 3 ∨ z.state = 4) (h6 : k ≠ 6) (h7 : k ≠ 7) (h8 : k ≠ 8) : (stepZ z k x y).state = z.state ∧ (stepZ z k x y).L.length = z.L.length := by
  have hf : ¬ failedOf z.state = 0 := by rcases h with h | h <;> rw [h] <;> decide
  unfold stepZ
  rw [if_neg h6, if_neg h7, if_neg h8]
  split
  · rw [Zn.append_failed x hf]; exact ⟨rfl, rfl⟩
  split
  · rw [Zn.reset_failed hf]; exact ⟨rfl, rfl⟩
  split
  · rw [Zn.finish_failed hf]; exact ⟨rfl, rfl⟩
  split
  · exact ⟨rfl, rfl⟩
  · exact ⟨rfl, rfl⟩

theorem read_in' {z : Zn Int} (x : Int) (h : ¬ z.state = 4) (h0 : ¬ x < 0) (h1 : ¬ (z.L.length : Int) ≤ x) : z.read 0 x = (z.L[x.toNat]?.getD 0, 0) := by
  rw [Zn.read, if_neg h, if_neg (by omega)]

set_option maxRecDepth 100000 in
set_option maxHeartbeats 4000000 in
theorem failed_walk (size : Int) (A1 : Option Addr) (cap1 : Nat) (os : List Stp) (state : Int) (A2 : Option Addr) (cap2 : Nat) (ms : List Stp) (w : World) (h1 : CameOps w A1 os) (h2 : CameOps w A2 ms)
    (hs1 : 1 ≤ size) (hs2 : size ≤ 64) (hn1 : os.length ≤ 80) (hn2 : ms.length ≤ 80) :
    Calls Try.prog 5 #[.int .i64 size, .slice A1 os.length cap1, .int .i64 state, .slice A2 ms.length cap2] w fun e w' => e = .returned (.bool true) ∧ Below w.heap.size w w' := by
  have h1' := hide h1
  have h2' := hide h2
  clear h1 h2
  go_enter Try.func5, Try.ntmps5
  go_wp2_with fail
  refine (ZI.anchor_any _).mono ?_
  rintro e w1 ⟨rfl, hb1⟩
  go_wp2_with fail
  refine (ZI.new_any size _ hs1 hs2).mono ?_
  rintro e w2 ⟨rfl, hmade⟩
  have hrel0 := hide (Rel.start hb1 hmade)
  have hok0 := hide (new_ok size hs1 hs2)
  clear hmade hs1 hs2
  go_wp2_with fail
  go_loopw [47] (fun i wr => ∃ k : Nat, k ≤ os.length ∧ i = .int .i64 k ∧ Rel w w2.heap.size w1.heap.size (played (Zn.new size) os k) (played (Zn.new size) os k) wr) (fun i _ => os.length - (intOf i).toNat)
  case atStart => exact ⟨0, Nat.zero_le _, rfl, by rw [played_zero]; exact hrel0.out⟩
  case round =>
    obtain ⟨k, hk, rfl, hR⟩ := hrel
    obtain ⟨A, c, F, G, hB, hg, hFg, hGg, hF, hG, hbel, hgw⟩ := hR
    have hok := played_ok hok0.out os k
    have hlen := hok.lt
    by_cases hlt : k < os.length
    · obtain ⟨ab, off, rfl, hab, c0, c1, c2⟩ := h1'.out.at_ hbel k hlt
      obtain ⟨k0, k1, k2, k3, k4, f0, f1, f2, f3, f4⟩ := hg.five
      have hgl := hg.lt
      have hB' := fun o : Obj => hB.below ((Below.refl wr.heap.size wr).alloc (Nat.le_refl _) o)
      have Hstep := fun o : Obj => step_any (played (Zn.new size) os k) (played (Zn.new size) os k) os[k].1 os[k].2.1 os[k].2.2 w1.heap.size A c (wr.alloc o) F G (hB' o) hlen hlen hok.safe hok.safe hok.state_hi
      have HS := hide Hstep
      have hps := hide (played_succ (Zn.new size) os k hlt)
      clear Hstep hB'
      go_wp2_with fail
      refine (HS.out _).mono ?_
      rintro e w3 ⟨A', c', rfl, F', G', hB3, hm3, hF3, hG3⟩
      have hg3 : Blk w3 w2.heap.size _ _ := (hg.alloc _).mods hm3 hFg
      clear k0 k1 k2 k3 k4 f0 f1 f2 f3 f4
      obtain ⟨k0, k1, k2, k3, k4, f0, f1, f2, f3, f4⟩ := hg3.five
      have hnext := hide (Rel.next hbel ((Below.refl wr.heap.size wr).alloc (Nat.le_refl _) _) hg3 rfl hF hG hFg hGg hgl hgw hB3 hm3 hF3 hG3)
      clear hB3 hm3 hF3 hG3 hB hg hFg hGg hF hG
      go_wp2_with fail
      go_roundw
      case rel => exact ⟨k + 1, by omega, by go_num, by rw [hps.out]; exact hnext.out⟩
      case measure => simp [intOf]; omega
    · obtain rfl : k = os.length := by omega
      generalize hz : played (Zn.new size) os os.length = z at *
      have Hz := hide hz
      clear hz
      go_upto_region 12 with (fail)
      by_cases h34 : state = 3 ∨ state = 4
      · have hbs := hbel.size
        by_cases hs4 : state = 4
        · subst hs4
          clear h34
          obtain ⟨zf, hzf, hst, hL, hokf⟩ : ∃ zf : Zn Int, z.fail 4 = zf ∧ zf.state = 4 ∧ zf.L.length = z.L.length ∧ zf.Ok := ⟨{ z with state := 4 }, Zn.fail_yes 4 (.inl rfl), rfl, rfl, ⟨hok.size_lo, hok.size_hi, hok.len, fun h => absurd h (by simp), hok.safe, by simp, by simp⟩⟩
          have hf0 := ZI.fail_any z 4 w1.heap.size wr F hB.zone
          rw [hzf] at hf0
          have Hf0 := hide hf0
          have Hst := hide hst
          have HL := hide hL
          clear hzf hf0 hst hL
          go_wp2_with fail
          refine Hf0.out.mono ?_
          rintro e w3 ⟨rfl, hd⟩
          have hR3 := Rel.zone hB hg hFg hGg hF hG hbel hgw hd
          have HR4 := hide hR3
          clear hd hB hg hFg hGg hF hG hbel
          obtain ⟨A, c, F, G, hB, hg, hFg, hGg, hF, hG, hbel, hgw⟩ := hR3
          obtain ⟨A3, c3, n0, n2, n3⟩ := hB.zone.cells
          rw [HL.out] at n0
          rw [Hst.out] at n3
          clear hB hg hFg hGg hF hG hbel n2
          go_wp2_with fail
          refine (ZI.state_any _ _ _ n3).mono ?_
          rintro e w4 ⟨rfl, rfl⟩
          go_wp2_with fail
          refine (ZI.len_any _ _ _ _ _ n0).mono ?_
          rintro e w4 ⟨rfl, rfl⟩
          clear n0 n3
          go_wp2_with fail
          go_loopw [74] (fun i wr => ∃ j : Nat, j ≤ ms.length ∧ i = .int .i64 j ∧ ∃ zj, Rel w w2.heap.size w1.heap.size zj z wr ∧ zj.state = 4 ∧ zj.L.length = z.L.length ∧ zj.Ok) (fun i _ => ms.length - (intOf i).toNat)
          case atStart => exact ⟨0, Nat.zero_le _, rfl, _, HR4.out, Hst.out, HL.out, hokf⟩
          case round =>
            obtain ⟨j, hj, rfl, zj, hR2, hzs, hzl, hokj⟩ := hrel
            have hR2' := hide hR2
            obtain ⟨Aj, cj, F2, G2, hB2', hg2, hFg2, hGg2, hF2, hG2, hbel2, hgw2⟩ := hR2
            by_cases hlt : j < ms.length
            · obtain ⟨ab, off, rfl, hab, c0, c1, c2⟩ := h2'.out.at_ hbel2 j hlt
              by_cases hk6 : ms[j].1 = 6 ∨ ms[j].1 = 7 ∨ ms[j].1 = 8
              · have hR5 := hide (hR2'.out.alloc (.cells #[.int .i64 ms[j].1, .int .i64 ms[j].2.1, .int .i64 ms[j].2.2] 41))
                clear hB2' hg2 hFg2 hGg2 hF2 hG2
                have Hzs := hide hzs
                have Hzl := hide hzl
                clear hzs hzl
                have hsk : ((ms[j].1 == 6) = true) ∨ ((ms[j].1 == 6) = false ∧ (ms[j].1 == 7) = true) ∨ ((ms[j].1 == 6) = false ∧ (ms[j].1 == 7) = false ∧ (ms[j].1 == 8) = true) := by
                  rcases hk6 with h | h | h <;> rw [h] <;> decide
                clear hk6
                rcases hsk with q1 | ⟨q1, q2⟩ | ⟨q1, q2, q3⟩
                all_goals
                  go_wp2_with fail
                  go_roundw
                  case rel => exact ⟨j + 1, by omega, by go_num, _, hR5.out, Hzs.out, Hzl.out, hokj⟩
                  case measure => simp [intOf]; omega
              · have q1 : (ms[j].1 == 6) = false := beq_eq_false_iff_ne.2 (by omega)
                have q2 : (ms[j].1 == 7) = false := beq_eq_false_iff_ne.2 (by omega)
                have q3 : (ms[j].1 == 8) = false := beq_eq_false_iff_ne.2 (by omega)
                have hstl := hide (stepZ_failed zj ms[j].1 ms[j].2.1 ms[j].2.2 (by omega) (by omega) (by omega) (by omega))
                rw [hzs, hzl] at hstl
                obtain ⟨k0, k1, k2, k3, k4, f0, f1, f2, f3, f4⟩ := hg2.five
                have hgl := hg2.lt
                have hB' := fun o : Obj => hB2'.below ((Below.refl wr.heap.size wr).alloc (Nat.le_refl _) o)
                have Hstep := fun o : Obj => step_any zj z ms[j].1 ms[j].2.1 ms[j].2.2 w1.heap.size Aj cj (wr.alloc o) F2 G2 (hB' o) hokj.lt hok.lt hokj.safe hok.safe hok.state_hi
                have HS2 := hide Hstep
                have Hzs := hide hzs
                have Hzl := hide hzl
                clear Hstep hB' hk6 hzs hzl
                have hrdv := hide (Zn.read_off (z := zj) 0 ms[j].2.1 Hzs.out)
                have hrd := ZI.read_any zj ms[j].2.1 w1.heap.size (wr.alloc (.cells #[.int .i64 ms[j].1, .int .i64 ms[j].2.1, .int .i64 ms[j].2.2] 41)) F2 (hB2'.zone.alloc _) hokj.lt
                rw [hrdv.out] at hrd
                have Hrd := hide hrd
                clear hrd
                go_wp2_with fail
                refine Hrd.out.mono ?_
                rintro e w5 ⟨rfl, rfl⟩
                go_wp2_with fail
                refine (HS2.out _).mono ?_
                rintro e w6 ⟨A', c', rfl, F', G', hB6, hm6, hF6, hG6⟩
                obtain ⟨A6, c6, n0, n2, n3⟩ := hB6.zone.cells
                rw [hstl.out.1] at n3
                rw [hstl.out.2] at n0
                have hg6 : Blk w6 w2.heap.size _ _ := (hg2.alloc _).mods hm6 hFg2
                have hnext := hide (Rel.kept hbel2 ((Below.refl wr.heap.size wr).alloc (Nat.le_refl _) _) hg6 rfl hF2 hG2 hFg2 hGg2 hg2.lt hgw2 hB6 hm6 hF6 hB2')
                clear hB6 hm6 hF6 hG6 n2
                go_wp2_with fail
                refine (ZI.state_any _ _ _ n3).mono ?_
                rintro e w7 ⟨rfl, rfl⟩
                go_wp2_with fail
                refine (ZI.len_any _ _ _ _ _ n0).mono ?_
                rintro e w7 ⟨rfl, rfl⟩
                go_wp2_with fail
                go_roundw
                case rel => exact ⟨j + 1, by omega, by go_num, _, hnext.out, hstl.out.1, by rw [hstl.out.2], stepZ_ok hokj _ _ _⟩
                case measure => simp [intOf]; omega
            · obtain rfl : j = ms.length := by omega
              clear hB2' hg2 hFg2 hGg2 hF2 hG2
              go_wp2_with fail
              go_ret
              exact ⟨rfl, hbel2⟩
        · obtain rfl : state = 3 := by omega
          clear h34 hs4
          by_cases hz4 : z.state = 4
          · obtain ⟨zf, hzf, hst, hL, hokf⟩ : ∃ zf : Zn Int, z.fail 3 = zf ∧ zf.state = 4 ∧ zf.L.length = z.L.length ∧ zf.Ok := ⟨z, Zn.fail_no 3 (by omega), hz4, rfl, hok⟩
            have hf0 := ZI.fail_any z 3 w1.heap.size wr F hB.zone
            rw [hzf] at hf0
            have Hf0 := hide hf0
            have Hst := hide hst
            have HL := hide hL
            clear hzf hf0 hst hL hz4
            go_wp2_with fail
            refine Hf0.out.mono ?_
            rintro e w3 ⟨rfl, hd⟩
            have hR3 := Rel.zone hB hg hFg hGg hF hG hbel hgw hd
            have HR4 := hide hR3
            clear hd hB hg hFg hGg hF hG hbel
            obtain ⟨A, c, F, G, hB, hg, hFg, hGg, hF, hG, hbel, hgw⟩ := hR3
            obtain ⟨A3, c3, n0, n2, n3⟩ := hB.zone.cells
            rw [HL.out] at n0
            rw [Hst.out] at n3
            clear hB hg hFg hGg hF hG hbel n2
            go_wp2_with fail
            refine (ZI.state_any _ _ _ n3).mono ?_
            rintro e w4 ⟨rfl, rfl⟩
            go_wp2_with fail
            refine (ZI.len_any _ _ _ _ _ n0).mono ?_
            rintro e w4 ⟨rfl, rfl⟩
            clear n0 n3
            go_wp2_with fail
            go_loopw [74] (fun i wr => ∃ j : Nat, j ≤ ms.length ∧ i = .int .i64 j ∧ ∃ zj, Rel w w2.heap.size w1.heap.size zj z wr ∧ zj.state = 4 ∧ zj.L.length = z.L.length ∧ zj.Ok) (fun i _ => ms.length - (intOf i).toNat)
            case atStart => exact ⟨0, Nat.zero_le _, rfl, _, HR4.out, Hst.out, HL.out, hokf⟩
            case round =>
              obtain ⟨j, hj, rfl, zj, hR2, hzs, hzl, hokj⟩ := hrel
              have hR2' := hide hR2
              obtain ⟨Aj, cj, F2, G2, hB2', hg2, hFg2, hGg2, hF2, hG2, hbel2, hgw2⟩ := hR2
              by_cases hlt : j < ms.length
              · obtain ⟨ab, off, rfl, hab, c0, c1, c2⟩ := h2'.out.at_ hbel2 j hlt
                by_cases hk6 : ms[j].1 = 6 ∨ ms[j].1 = 7 ∨ ms[j].1 = 8
                · have hR5 := hide (hR2'.out.alloc (.cells #[.int .i64 ms[j].1, .int .i64 ms[j].2.1, .int .i64 ms[j].2.2] 41))
                  clear hB2' hg2 hFg2 hGg2 hF2 hG2
                  have Hzs := hide hzs
                  have Hzl := hide hzl
                  clear hzs hzl
                  have hsk : ((ms[j].1 == 6) = true) ∨ ((ms[j].1 == 6) = false ∧ (ms[j].1 == 7) = true) ∨ ((ms[j].1 == 6) = false ∧ (ms[j].1 == 7) = false ∧ (ms[j].1 == 8) = true) := by
                    rcases hk6 with h | h | h <;> rw [h] <;> decide
                  clear hk6
                  rcases hsk with q1 | ⟨q1, q2⟩ | ⟨q1, q2, q3⟩
                  all_goals
                    go_wp2_with fail
                    go_roundw
                    case rel => exact ⟨j + 1, by omega, by go_num, _, hR5.out, Hzs.out, Hzl.out, hokj⟩
                    case measure => simp [intOf]; omega
                · have q1 : (ms[j].1 == 6) = false := beq_eq_false_iff_ne.2 (by omega)
                  have q2 : (ms[j].1 == 7) = false := beq_eq_false_iff_ne.2 (by omega)
                  have q3 : (ms[j].1 == 8) = false := beq_eq_false_iff_ne.2 (by omega)
                  have hstl := hide (stepZ_failed zj ms[j].1 ms[j].2.1 ms[j].2.2 (by omega) (by omega) (by omega) (by omega))
                  rw [hzs, hzl] at hstl
                  obtain ⟨k0, k1, k2, k3, k4, f0, f1, f2, f3, f4⟩ := hg2.five
                  have hgl := hg2.lt
                  have hB' := fun o : Obj => hB2'.below ((Below.refl wr.heap.size wr).alloc (Nat.le_refl _) o)
                  have Hstep := fun o : Obj => step_any zj z ms[j].1 ms[j].2.1 ms[j].2.2 w1.heap.size Aj cj (wr.alloc o) F2 G2 (hB' o) hokj.lt hok.lt hokj.safe hok.safe hok.state_hi
                  have HS2 := hide Hstep
                  have Hzs := hide hzs
                  have Hzl := hide hzl
                  clear Hstep hB' hk6 hzs hzl
                  have hrdv := hide (Zn.read_off (z := zj) 0 ms[j].2.1 Hzs.out)
                  have hrd := ZI.read_any zj ms[j].2.1 w1.heap.size (wr.alloc (.cells #[.int .i64 ms[j].1, .int .i64 ms[j].2.1, .int .i64 ms[j].2.2] 41)) F2 (hB2'.zone.alloc _) hokj.lt
                  rw [hrdv.out] at hrd
                  have Hrd := hide hrd
                  clear hrd
                  go_wp2_with fail
                  refine Hrd.out.mono ?_
                  rintro e w5 ⟨rfl, rfl⟩
                  go_wp2_with fail
                  refine (HS2.out _).mono ?_
                  rintro e w6 ⟨A', c', rfl, F', G', hB6, hm6, hF6, hG6⟩
                  obtain ⟨A6, c6, n0, n2, n3⟩ := hB6.zone.cells
                  rw [hstl.out.1] at n3
                  rw [hstl.out.2] at n0
                  have hg6 : Blk w6 w2.heap.size _ _ := (hg2.alloc _).mods hm6 hFg2
                  have hnext := hide (Rel.kept hbel2 ((Below.refl wr.heap.size wr).alloc (Nat.le_refl _) _) hg6 rfl hF2 hG2 hFg2 hGg2 hg2.lt hgw2 hB6 hm6 hF6 hB2')
                  clear hB6 hm6 hF6 hG6 n2
                  go_wp2_with fail
                  refine (ZI.state_any _ _ _ n3).mono ?_
                  rintro e w7 ⟨rfl, rfl⟩
                  go_wp2_with fail
                  refine (ZI.len_any _ _ _ _ _ n0).mono ?_
                  rintro e w7 ⟨rfl, rfl⟩
                  go_wp2_with fail
                  go_roundw
                  case rel => exact ⟨j + 1, by omega, by go_num, _, hnext.out, hstl.out.1, by rw [hstl.out.2], stepZ_ok hokj _ _ _⟩
                  case measure => simp [intOf]; omega
              · obtain rfl : j = ms.length := by omega
                clear hB2' hg2 hFg2 hGg2 hF2 hG2
                go_wp2_with fail
                go_ret
                exact ⟨rfl, hbel2⟩
          · obtain ⟨zf, hzf, hst, hL, hokf⟩ : ∃ zf : Zn Int, z.fail 3 = zf ∧ zf.state = 3 ∧ zf.L.length = z.L.length ∧ zf.Ok := ⟨{ z with state := 3 }, Zn.fail_yes 3 (.inr ⟨rfl, hz4⟩), rfl, rfl, ⟨hok.size_lo, hok.size_hi, hok.len, fun h => absurd h (by simp), hok.safe, by simp, by simp⟩⟩
            have hf0 := ZI.fail_any z 3 w1.heap.size wr F hB.zone
            rw [hzf] at hf0
            have Hf0 := hide hf0
            have Hst := hide hst
            have HL := hide hL
            clear hzf hf0 hst hL hz4
            go_wp2_with fail
            refine Hf0.out.mono ?_
            rintro e w3 ⟨rfl, hd⟩
            have hR3 := Rel.zone hB hg hFg hGg hF hG hbel hgw hd
            have HR4 := hide hR3
            clear hd hB hg hFg hGg hF hG hbel
            obtain ⟨A, c, F, G, hB, hg, hFg, hGg, hF, hG, hbel, hgw⟩ := hR3
            obtain ⟨A3, c3, n0, n2, n3⟩ := hB.zone.cells
            rw [HL.out] at n0
            rw [Hst.out] at n3
            clear hB hg hFg hGg hF hG hbel n2
            go_wp2_with fail
            refine (ZI.state_any _ _ _ n3).mono ?_
            rintro e w4 ⟨rfl, rfl⟩
            go_wp2_with fail
            refine (ZI.len_any _ _ _ _ _ n0).mono ?_
            rintro e w4 ⟨rfl, rfl⟩
            clear n0 n3
            go_wp2_with fail
            go_loopw [74] (fun i wr => ∃ j : Nat, j ≤ ms.length ∧ i = .int .i64 j ∧ ∃ zj, Rel w w2.heap.size w1.heap.size zj z wr ∧ zj.state = 3 ∧ zj.L.length = z.L.length ∧ zj.Ok) (fun i _ => ms.length - (intOf i).toNat)
            case atStart => exact ⟨0, Nat.zero_le _, rfl, _, HR4.out, Hst.out, HL.out, hokf⟩
            case round =>
              obtain ⟨j, hj, rfl, zj, hR2, hzs, hzl, hokj⟩ := hrel
              have hR2' := hide hR2
              obtain ⟨Aj, cj, F2, G2, hB2', hg2, hFg2, hGg2, hF2, hG2, hbel2, hgw2⟩ := hR2
              by_cases hlt : j < ms.length
              · obtain ⟨ab, off, rfl, hab, c0, c1, c2⟩ := h2'.out.at_ hbel2 j hlt
                by_cases hk6 : ms[j].1 = 6 ∨ ms[j].1 = 7 ∨ ms[j].1 = 8
                · have hR5 := hide (hR2'.out.alloc (.cells #[.int .i64 ms[j].1, .int .i64 ms[j].2.1, .int .i64 ms[j].2.2] 41))
                  clear hB2' hg2 hFg2 hGg2 hF2 hG2
                  have Hzs := hide hzs
                  have Hzl := hide hzl
                  clear hzs hzl
                  have hsk : ((ms[j].1 == 6) = true) ∨ ((ms[j].1 == 6) = false ∧ (ms[j].1 == 7) = true) ∨ ((ms[j].1 == 6) = false ∧ (ms[j].1 == 7) = false ∧ (ms[j].1 == 8) = true) := by
                    rcases hk6 with h | h | h <;> rw [h] <;> decide
                  clear hk6
                  rcases hsk with q1 | ⟨q1, q2⟩ | ⟨q1, q2, q3⟩
                  all_goals
                    go_wp2_with fail
                    go_roundw
                    case rel => exact ⟨j + 1, by omega, by go_num, _, hR5.out, Hzs.out, Hzl.out, hokj⟩
                    case measure => simp [intOf]; omega
                · have q1 : (ms[j].1 == 6) = false := beq_eq_false_iff_ne.2 (by omega)
                  have q2 : (ms[j].1 == 7) = false := beq_eq_false_iff_ne.2 (by omega)
                  have q3 : (ms[j].1 == 8) = false := beq_eq_false_iff_ne.2 (by omega)
                  have hstl := hide (stepZ_failed zj ms[j].1 ms[j].2.1 ms[j].2.2 (by omega) (by omega) (by omega) (by omega))
                  rw [hzs, hzl] at hstl
                  obtain ⟨k0, k1, k2, k3, k4, f0, f1, f2, f3, f4⟩ := hg2.five
                  have hgl := hg2.lt
                  have hB' := fun o : Obj => hB2'.below ((Below.refl wr.heap.size wr).alloc (Nat.le_refl _) o)
                  have Hstep := fun o : Obj => step_any zj z ms[j].1 ms[j].2.1 ms[j].2.2 w1.heap.size Aj cj (wr.alloc o) F2 G2 (hB' o) hokj.lt hok.lt hokj.safe hok.safe hok.state_hi
                  have HS2 := hide Hstep
                  have Hzs := hide hzs
                  have Hzl := hide hzl
                  clear Hstep hB' hk6 hzs hzl
                  by_cases hx0 : ms[j].2.1 < 0
                  · have hrdv := hide (Zn.read_out (z := zj) 0 ms[j].2.1 (by rw [Hzs.out]; decide) (.inl hx0))
                    have hrd := ZI.read_any zj ms[j].2.1 w1.heap.size (wr.alloc (.cells #[.int .i64 ms[j].1, .int .i64 ms[j].2.1, .int .i64 ms[j].2.2] 41)) F2 (hB2'.zone.alloc _) hokj.lt
                    rw [hrdv.out] at hrd
                    have Hrd := hide hrd
                    clear hrd
                    go_wp2_with fail
                    refine Hrd.out.mono ?_
                    rintro e w5 ⟨rfl, rfl⟩
                    go_wp2_with fail
                    refine (HS2.out _).mono ?_
                    rintro e w6 ⟨A', c', rfl, F', G', hB6, hm6, hF6, hG6⟩
                    obtain ⟨A6, c6, n0, n2, n3⟩ := hB6.zone.cells
                    rw [hstl.out.1] at n3
                    rw [hstl.out.2] at n0
                    have hg6 : Blk w6 w2.heap.size _ _ := (hg2.alloc _).mods hm6 hFg2
                    have hnext := hide (Rel.kept hbel2 ((Below.refl wr.heap.size wr).alloc (Nat.le_refl _) _) hg6 rfl hF2 hG2 hFg2 hGg2 hg2.lt hgw2 hB6 hm6 hF6 hB2')
                    clear hB6 hm6 hF6 hG6 n2
                    go_wp2_with fail
                    refine (ZI.state_any _ _ _ n3).mono ?_
                    rintro e w7 ⟨rfl, rfl⟩
                    go_wp2_with fail
                    refine (ZI.len_any _ _ _ _ _ n0).mono ?_
                    rintro e w7 ⟨rfl, rfl⟩
                    go_wp2_with fail
                    go_roundw
                    case rel => exact ⟨j + 1, by omega, by go_num, _, hnext.out, hstl.out.1, by rw [hstl.out.2], stepZ_ok hokj _ _ _⟩
                    case measure => simp [intOf]; omega
                  · by_cases hx1 : (z.L.length : Int) ≤ ms[j].2.1
                    · have hrdv := hide (Zn.read_out (z := zj) 0 ms[j].2.1 (by rw [Hzs.out]; decide) (.inr (by rw [Hzl.out]; exact hx1)))
                      have hrd := ZI.read_any zj ms[j].2.1 w1.heap.size (wr.alloc (.cells #[.int .i64 ms[j].1, .int .i64 ms[j].2.1, .int .i64 ms[j].2.2] 41)) F2 (hB2'.zone.alloc _) hokj.lt
                      rw [hrdv.out] at hrd
                      have Hrd := hide hrd
                      clear hrd
                      go_wp2_with fail
                      refine Hrd.out.mono ?_
                      rintro e w5 ⟨rfl, rfl⟩
                      go_wp2_with fail
                      refine (HS2.out _).mono ?_
                      rintro e w6 ⟨A', c', rfl, F', G', hB6, hm6, hF6, hG6⟩
                      obtain ⟨A6, c6, n0, n2, n3⟩ := hB6.zone.cells
                      rw [hstl.out.1] at n3
                      rw [hstl.out.2] at n0
                      have hg6 : Blk w6 w2.heap.size _ _ := (hg2.alloc _).mods hm6 hFg2
                      have hnext := hide (Rel.kept hbel2 ((Below.refl wr.heap.size wr).alloc (Nat.le_refl _) _) hg6 rfl hF2 hG2 hFg2 hGg2 hg2.lt hgw2 hB6 hm6 hF6 hB2')
                      clear hB6 hm6 hF6 hG6 n2
                      go_wp2_with fail
                      refine (ZI.state_any _ _ _ n3).mono ?_
                      rintro e w7 ⟨rfl, rfl⟩
                      go_wp2_with fail
                      refine (ZI.len_any _ _ _ _ _ n0).mono ?_
                      rintro e w7 ⟨rfl, rfl⟩
                      go_wp2_with fail
                      go_roundw
                      case rel => exact ⟨j + 1, by omega, by go_num, _, hnext.out, hstl.out.1, by rw [hstl.out.2], stepZ_ok hokj _ _ _⟩
                      case measure => simp [intOf]; omega
                    · have hrdv := hide (read_in' (z := zj) ms[j].2.1 (by rw [Hzs.out]; decide) hx0 (by rw [Hzl.out]; exact hx1))
                      have hrd := ZI.read_any zj ms[j].2.1 w1.heap.size (wr.alloc (.cells #[.int .i64 ms[j].1, .int .i64 ms[j].2.1, .int .i64 ms[j].2.2] 41)) F2 (hB2'.zone.alloc _) hokj.lt
                      rw [hrdv.out] at hrd
                      have Hrd := hide hrd
                      clear hrd
                      go_wp2_with fail
                      refine Hrd.out.mono ?_
                      rintro e w5 ⟨rfl, rfl⟩
                      go_wp2_with fail
                      refine (HS2.out _).mono ?_
                      rintro e w6 ⟨A', c', rfl, F', G', hB6, hm6, hF6, hG6⟩
                      obtain ⟨A6, c6, n0, n2, n3⟩ := hB6.zone.cells
                      rw [hstl.out.1] at n3
                      rw [hstl.out.2] at n0
                      have hg6 : Blk w6 w2.heap.size _ _ := (hg2.alloc _).mods hm6 hFg2
                      have hnext := hide (Rel.kept hbel2 ((Below.refl wr.heap.size wr).alloc (Nat.le_refl _) _) hg6 rfl hF2 hG2 hFg2 hGg2 hg2.lt hgw2 hB6 hm6 hF6 hB2')
                      clear hB6 hm6 hF6 hG6 n2
                      go_wp2_with fail
                      refine (ZI.state_any _ _ _ n3).mono ?_
                      rintro e w7 ⟨rfl, rfl⟩
                      go_wp2_with fail
                      refine (ZI.len_any _ _ _ _ _ n0).mono ?_
                      rintro e w7 ⟨rfl, rfl⟩
                      go_wp2_with fail
                      go_roundw
                      case rel => exact ⟨j + 1, by omega, by go_num, _, hnext.out, hstl.out.1, by rw [hstl.out.2], stepZ_ok hokj _ _ _⟩
                      case measure => simp [intOf]; omega
              · obtain rfl : j = ms.length := by omega
                clear hB2' hg2 hFg2 hGg2 hF2 hG2
                go_wp2_with fail
                go_ret
                exact ⟨rfl, hbel2⟩
      · have s3 : (state != 3) = true := by simp; omega
        have s4 : (state != 4) = true := by simp; omega
        clear h34 hB hg hFg hGg hF hG
        go_wp2_with fail
        go_ret
        exact ⟨rfl, hbel⟩
end Go.Proofs.Ytahlphclighccaa

