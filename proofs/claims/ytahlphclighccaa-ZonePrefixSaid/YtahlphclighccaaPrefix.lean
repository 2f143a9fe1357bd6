/-
  The walk of ZonePrefix: it answers true, and nothing that was there has turned.
-/
import Derived.Test.YtahlphclighccaaPreRel
import Derived.Test.YtahlphclighccaaZStep
import Derived.Deep.RegionHeld3
import Derived.Deep.CutBlock
import Derived.Deep.CutRange
namespace Go.Proofs.Ytahlphclighccaa
open Go.RowKit Go.Shelf It

attribute [local go_sem] Oper.semAt_some

/-- The activation between two rounds. -/
def preFrame (size : Int) (A1 : Option Addr) (len cap1 n0 n1 n2 k : Nat) (Ds : List Nat) (v : Nat → Value) : Act := { tmps := #[.int .i64 size, .slice A1 len cap1, undef, undef, .pointer (some ⟨n0, 0, none⟩), .pointer (some ⟨n1, 0, none⟩), .int .i64 0, .pointer (some ⟨n2, 0, none⟩), undef, v 9, v 10, v 11, v 12, v 13, v 14, v 15, .bool true, .bool false, .tuple #[.pointer (some ⟨n1, 0, none⟩), .int .i64 0], .int .i64 size, .tuple #[.pointer (some ⟨n1, 0, none⟩), .int .i64 0], .pointer (some ⟨n1, 0, none⟩), .int .i64 0, .int .i64 0, .bool false, .bool false, .pointer (some ⟨n1, 0, none⟩), .bool false, .bool false, .bool false, .slice A1 len cap1, .int .i64 len, .bool false, .bool false, .slice A1 len cap1, .int .i64 len, .int .i64 (k : Int), v 37, v 38, v 39, v 40, v 41, v 42, v 43, v 44, v 45, v 46, v 47, v 48, v 49, v 50, v 51, v 52, v 53, v 54, v 55, v 56, v 57, v 58, v 59, v 60, v 61, v 62, v 63, v 64, v 65, v 66, v 67, v 68, v 69, v 70, v 71, v 72, v 73, v 74, v 75, v 76, v 77, v 78, v 79, v 80, v 81, v 82, v 83, v 84, v 85, v 86, v 87, v 88, v 89, v 90, v 91, v 92, v 93, v 94, v 95, v 96, v 97, v 98, v 99, v 100, v 101, v 102, v 103, v 104, v 105, v 106, v 107, v 108, v 109, v 110, v 111, v 112, v 113, v 114, v 115, v 116, v 117, v 118, v 119, v 120, v 121, v 122, v 123, v 124, v 125, v 126, v 127, v 128, v 129, v 130, v 131, v 132, v 133, v 134, v 135, v 136, v 137, v 138, v 139, v 140, v 141, v 142, v 143, v 144, v 145, v 146, v 147], defers := Ds.map It.mark }
/-- The activation of the inner loop's body: an index and what stands there are at hand. -/
def preRow (size : Int) (A1 : Option Addr) (len cap1 n0 n1 n2 k : Nat) (v : Nat → Value) (p g i x : Value) : Act := { tmps := #[.int .i64 size, .slice A1 len cap1, undef, undef, .pointer (some ⟨n0, 0, none⟩), .pointer (some ⟨n1, 0, none⟩), .int .i64 0, .pointer (some ⟨n2, 0, none⟩), undef, v 9, v 10, v 11, v 12, p, i, x, .bool true, .bool false, .tuple #[.pointer (some ⟨n1, 0, none⟩), .int .i64 0], .int .i64 size, .tuple #[.pointer (some ⟨n1, 0, none⟩), .int .i64 0], .pointer (some ⟨n1, 0, none⟩), .int .i64 0, .int .i64 0, .bool false, .bool false, .pointer (some ⟨n1, 0, none⟩), .bool false, .bool false, .bool false, .slice A1 len cap1, .int .i64 len, .bool false, .bool false, .slice A1 len cap1, .int .i64 len, .int .i64 (k : Int), v 37, v 38, v 39, v 40, v 41, v 42, v 43, v 44, v 45, v 46, v 47, v 48, v 49, v 50, v 51, v 52, v 53, v 54, v 55, v 56, v 57, v 58, v 59, v 60, v 61, v 62, v 63, v 64, v 65, v 66, v 67, v 68, v 69, v 70, v 71, v 72, v 73, v 74, v 75, v 76, v 77, v 78, v 79, v 80, v 81, v 82, v 83, v 84, v 85, v 86, v 87, v 88, v 89, v 90, v 91, v 92, v 93, v 94, v 95, v 96, v 97, v 98, v 99, v 100, v 101, v 102, v 103, v 104, v 105, v 106, v 107, v 108, v 109, v 110, v 111, v 112, v 113, v 114, v 115, v 116, v 117, v 118, .pointer (some ⟨n1, 0, none⟩), g, i, x, v 123, v 124, v 125, v 126, v 127, v 128, v 129, v 130, v 131, v 132, v 133, v 134, v 135, v 136, v 137, v 138, v 139, v 140, v 141, v 142, v 143, v 144, v 145, v 146, v 147], defers := [] }

theorem below_drewN {B : Nat} {a w : World} (h : Below B a w) (n : Nat) : Below B a (w.drewN n) := ⟨h.os, h.tape, h.output, h.size, h.block⟩
theorem append_plain (z : Zn Int) (x : Int) : ((z.append x).2.2 = 0 ∧ (z.append x).1.L = z.L ++ [x]) ∨ (((z.append x).2.2 == 0) = false ∧ (z.append x).1.L = z.L) := by
  by_cases hf : failedOf z.state = 0
  · by_cases hs : z.state = 2
    · rw [Zn.append_full x hf hs]; exact .inr ⟨rfl, rfl⟩
    · by_cases hl : ((z.L.length + 1 : Nat) : Int) = z.size
      · rw [Zn.append_last x hf hs hl]; exact .inl ⟨rfl, rfl⟩
      · rw [Zn.append_more x hf hs hl]; exact .inl ⟨rfl, rfl⟩
  · rw [Zn.append_failed x hf]; exact .inr ⟨by simpa using hf, rfl⟩
theorem reset_plain (z : Zn Int) : (z.reset.2 = 0 ∧ z.reset.1.L = []) ∨ ((z.reset.2 == 0) = false ∧ z.reset.1.L = z.L) := by
  by_cases hf : failedOf z.state = 0
  · rw [Zn.reset_ok hf]; exact .inl ⟨rfl, rfl⟩
  · rw [Zn.reset_failed hf]; exact .inr ⟨by simpa using hf, rfl⟩
theorem finish_plain (z : Zn Int) : z.finish.1.L = z.L := by
  by_cases hf : failedOf z.state = 0
  · rw [Zn.finish_ok hf]
  · rw [Zn.finish_failed hf]
theorem fail_plain (z : Zn Int) (s : Int) : (z.fail s).L = z.L := by
  unfold Zn.fail; split <;> rfl

set_option maxRecDepth 100000 in
set_option maxHeartbeats 8000000 in
theorem prefix_walk (size : Int) (A1 : Option Addr) (cap1 : Nat) (os : List Stp) (w : World) (h1 : CameOps w A1 os)
    (hs1 : 1 ≤ size) (hs2 : size ≤ 64) (hn1 : os.length ≤ 80) :
    Calls Try.prog 4 #[.int .i64 size, .slice A1 os.length cap1] w fun e w' => e = .returned (.bool true) ∧ Below w.heap.size w w' := by
  have h1' := hide h1
  clear h1
  have hd80 : decide (80 < (os.length : Int)) = false := decide_eq_false (by omega)
  refine calls_of_wp_marks Try.func4 rfl ?_
  simp only [Try.ntmps4, List.size_toArray, List.length_cons, List.length_nil, Nat.reduceAdd, Nat.reduceSub, Array.replicate_succ, Array.replicate_zero, List.push_toArray, List.append_toArray, List.nil_append, List.cons_append]
  go_wp2_with fail
  have hwb0 : Below w.heap.size w (w.alloc (.cells #[.bool false] 4)) := (Below.refl _ w).alloc (Nat.le_refl _) _
  have h5b0 : Blk (w.alloc (.cells #[.bool false] 4)) w.heap.size 4 #[.bool false] := Blk.new _ _ _
  obtain ⟨wb, hwb⟩ : ∃ wb, wb = w.alloc (.cells #[.bool false] 4) := ⟨_, rfl⟩
  rw [← hwb] at hwb0 h5b0 ⊢
  clear hwb
  have h5lt := h5b0.lt
  refine (ZI.anchor_any _).mono ?_
  rintro e w1 ⟨rfl, hb1⟩
  go_wp2_with fail
  refine (ZI.new_any size _ hs1 hs2).mono ?_
  rintro e w2 ⟨rfl, hmade⟩
  have hok0 := hide (new_ok size hs1 hs2)
  have hpre0 := hide (Pre.start hb1 hmade)
  clear hs1 hs2 hmade
  go_wp2_with fail
  rename_i hK
  refine wp_loop (fun a wr => ∃ (k : Nat) (Ds : List Nat), a = preFrame size A1 os.length cap1 w.heap.size w1.heap.size w2.heap.size k Ds (fun i => a.tmps.getD i undef) ∧ k ≤ os.length ∧ ∃ z : Zn Int, z.Ok ∧ Pre wb w2.heap.size w1.heap.size z Ds wr)
    (fun a _ => os.length - (intOf (a.tmps.getD 36 undef)).toNat) ⟨0, [], rfl, Nat.zero_le _, _, hok0.out, hpre0.out⟩ ?_
  rintro a wr ⟨k, Ds, ha, hk, z, hok, hpre⟩
  generalize (fun i => a.tmps.getD i undef) = v at ha
  subst ha
  unfold preFrame
  have hpre' := hide hpre
  obtain ⟨A, c, F, G, hP⟩ := hpre
  have hbel := hP.bel
  have hbelw : Below w.heap.size w wr := hwb0.trans (hbel.mono hwb0.size)
  have hlen := hok.lt
  have hok' := hide hok
  by_cases hlt : k < os.length
  · obtain ⟨ab, off, rfl, hab, c0, c1, c2⟩ := h1'.out.at_ hbelw k hlt
    obtain ⟨o1, o2, o3, ho⟩ : ∃ o1 o2 o3, os[k] = (o1, o2, o3) := ⟨_, _, _, rfl⟩
    rw [ho] at c0 c1 c2
    clear hK ho
    dsimp only at c0 c1 c2
    have hba : Below wr.heap.size wr (wr.alloc (.cells #[.int .i64 o1, .int .i64 o2, .int .i64 o3] 41)) := (Below.refl wr.heap.size wr).alloc (Nat.le_refl _) _
    have kb0 : Blk (wr.alloc (.cells #[.int .i64 o1, .int .i64 o2, .int .i64 o3] 41)) wr.heap.size 41 #[.int .i64 o1, .int .i64 o2, .int .i64 o3] := Blk.new _ _ _
    go_upto_region 10 with (fail)
    obtain ⟨W0, hW0⟩ : ∃ W0, W0 = wr.alloc (.cells #[.int .i64 o1, .int .i64 o2, .int .i64 o3] 41) := ⟨_, rfl⟩
    rw [← hW0] at hba kb0 ⊢
    have hP0 := hP.below hba
    obtain ⟨b0, b1, b2, -⟩ := kb0.three
    obtain ⟨zA, zc, z0, z2, z3⟩ := hP0.both.zone.cells
    have Hsafe := hide (ZI.safe_any w1.heap.size z.safe W0 z2)
    have hltF := hP.both.lt
    clear hW0 c0 c1 c2 hP
    go_upto_block 2 with (refine Hsafe.out.mono ?_; rintro e w' ⟨rfl, rfl⟩)
    have hFw : ¬ F wr.heap.size := fun h => by have := hltF _ h; omega
    have Hzone := hide hP0.both.zone
    have HP0 := hide hP0
    have Hlen := hide hlen
    clear hlen
    go_cut [10, 11, 12] from 37 to 146 (fun _ _ _ wx => ∃ z', z'.Ok ∧ Pre wb w2.heap.size w1.heap.size z' Ds wx)
    case first =>
      by_cases h1 : o1 = 1
      · have e1 : (o1 == 1) = true := beq_iff_eq.2 h1
        have hc := hide (ZI.append_any z o2 w1.heap.size W0 F Hzone.out Hlen.out)
        have hzo : Hid (Zn.Ok (z.append o2).1) := hide (stepZ_ok hok'.out 1 o2 0)
        obtain ⟨i0, hi, hz0', hz1', hz2'⟩ := info_parts ZI.infoE
        clear h1
        rcases append_plain z o2 with ⟨hf, hL⟩ | ⟨hf, hL⟩
        · have hf' : ((z.append o2).2.2 == 0) = true := by rw [hf]; rfl
          have hL' := hide hL
          clear hf hL
          go_wp2_with fail
          refine hc.out.mono ?_
          rintro e w3 ⟨rfl, hd⟩
          have hwas : Blk w3 w2.heap.size 39 #[.slice A z.L.length c] := by
            obtain ⟨_, _, hm, _⟩ := hd
            exact HP0.out.was.mods hm HP0.out.gwF
          have hb3 : Blk w3 wr.heap.size 41 #[.int .i64 o1, .int .i64 o2, .int .i64 o3] := by
            obtain ⟨_, _, hm, _⟩ := hd
            exact kb0.mods hm hFw
          have hr := hide (refThen HP0.out.both hd)
          have hd' := hide hd
          have cw : w3.cell? ⟨w2.heap.size, 0, none⟩ = some (.slice A z.L.length c) := hwas.cell 0
          have fw := hwas.frozen 0
          have b1' : w3.cell? ⟨wr.heap.size, 1, none⟩ = some (.int .i64 o2) := hb3.cell 1
          clear hd hwas hb3
          go_upto_region 15 with (fail)
          have hlt2 : w2.heap.size < w3.heap.size := World.block_lt_of_cell? w3 _ cw
          have hlt3 : wr.heap.size < w3.heap.size := World.block_lt_of_cell? w3 _ b1'
          have hne23 : (⟨wr.heap.size, 1, none⟩ : Addr) ≠ ⟨w2.heap.size, 0, none⟩ := fun h => by simp at h
          refine wp_region_noPanic ?_
          go_region_law
            (first
              | (refine step_append_src (o := ⟨some 57, _, _, _, _, _⟩) _ (by rfl) _ _ _ (by rfl) 0 3 i0 _ 1 8 Try.underlying39 hi hz0' hz1' hz2' rfl (by omega) _ 0 [] (by rfl) (own_zero (by first | exact heap_alloc_new w3 _ | exact heap_alloc2_old w3 _ _ | exact heap_alloc2_new w3 _ _)) A z.L.length c (z.L.map (Value.int .i64)) (by rfl) (hr.out.below (by first | exact ((Below.refl _ w3).alloc (Nat.le_refl _) _).drew | exact (((Below.refl _ w3).alloc (Nat.le_refl _) _).alloc (by simp) _).drew)).1 (fun u hu => by obtain ⟨y, _, rfl⟩ := List.mem_map.1 hu; rfl) (by have := Hlen.out; unfold maxLen; omega) (by have := Hlen.out; omega) (Nat.zero_le _) ?_; intro v5 w5 hown5 hgrow5 hat5; obtain ⟨A5, c5, rfl⟩ := own_form hown5; have hB5 : Below w3.heap.size w3 w5 := Below.grown (by first | exact ((Below.refl _ w3).alloc (Nat.le_refl _) _).drew | exact (((Below.refl _ w3).alloc (Nat.le_refl _) _).alloc (by simp) _).drew) hgrow5 (by simp <;> omega) (fun k hk => by simp [Value.ownBlock] at hk; omega); have cw5 := (hB5.cell (p := ⟨w2.heap.size, 0, none⟩) hlt2).trans cw; have bw5 := (hB5.cell (p := ⟨wr.heap.size, 1, none⟩) hlt3).trans b1')
              | (refine step_append_src (o := ⟨some 61, _, _, _, _, _⟩) _ (by rfl) _ _ _ (by rfl) 0 3 i0 _ 1 8 Try.underlying39 hi hz0' hz1' hz2' rfl (by omega) _ z.L.length (z.L.map (Value.int .i64)) (by rfl) (by simp only [Nat.zero_add, List.nil_append] at hown5; first | exact hown5 | exact hown5.alloc _) _ 1 1 [.int .i64 o2] (by rfl) (own_one (by first | exact heap_alloc_new w5 _ | exact (hgrow5.block _ (by simp) (by simp [Value.ownBlock])).trans (heap_alloc2_new w3 _ _) | exact (hgrow5.block _ (by simp; omega) (by simp [Value.ownBlock])).trans (heap_alloc2_old w3 _ _))) (fun u hu => by simp at hu; subst hu; rfl) (by have := Hlen.out; unfold maxLen; omega) (by have := Hlen.out; omega) (Nat.zero_le _) ?_; intro v6 w6 hown6 hgrow6 hat6; obtain ⟨A6, c6, rfl⟩ := own_form hown6; have hr5 : ∀ k, (Value.slice A5 z.L.length c5).ownBlock = some k → w3.heap.size ≤ k := (fun k hk => by rw [ownBlock_any A5 _ _ (0 + z.L.length) c5] at hk; rcases hat5 with h | h <;> (rw [h] at hk; simp [Value.ownBlock] at hk; omega)); have hB6 : Below w3.heap.size w3 w6 := Below.grown (by first | exact hB5 | exact hB5.alloc hB5.size _) hgrow6 (by first | exact hB5.size | (simp; have := hB5.size; omega)) hr5; have cw6 := (hB6.cell (p := ⟨w2.heap.size, 0, none⟩) hlt2).trans cw; have bw6 := (hB6.cell (p := ⟨wr.heap.size, 1, none⟩) hlt3).trans b1'; have fw6 := (hB6.frozen (p := ⟨w2.heap.size, 0, none⟩) hlt2).trans fw; have hr6 : ∀ k, (Value.slice A6 (z.L.length + 1) c6).ownBlock = some k → w3.heap.size ≤ k := (fun k hk => by have hs5 := hB5.size; rcases hat6 with h | h <;> rw [h] at hk <;> first | exact hr5 k hk | (simp at hk; omega))))
          all_goals
            refine NoPanic.normal ?_
            go_wp2_with fail
            go_meet
            refine ⟨_, hzo.out, ?_⟩
            have hl : (z.append o2).1.L.length = z.L.length + 1 := by rw [hL'.out]; simp
            have := HP0.out.stored (A' := A6) (c' := c6) hd'.out hB6 (by rw [hl, hL'.out]; simpa using hown6) (fun g hg => .inr (hr6 g (by rw [hl] at hg; exact hg)))
            rw [hl] at this
            exact this
        · have hL' := hide hL
          clear hL
          go_wp2_with fail
          refine hc.out.mono ?_
          rintro e w3 ⟨rfl, hd⟩
          have hd' := hide hd
          clear hd
          go_wp2_with fail
          go_meet
          exact ⟨_, hzo.out, HP0.out.zone hd'.out hL'.out⟩
      by_cases h3 : o1 = 3
      · have e1 : (o1 == 1) = false := beq_eq_false_iff_ne.2 h1
        have e3 : (o1 == 3) = true := beq_iff_eq.2 h3
        have hc := hide (ZI.reset_any z w1.heap.size W0 F Hzone.out)
        have hzo : Hid (Zn.Ok z.reset.1) := hide (stepZ_ok hok'.out 3 0 0)
        clear h1 h3
        rcases reset_plain z with ⟨hf, hL⟩ | ⟨hf, hL⟩
        · have hf' : (z.reset.2 == 0) = true := by rw [hf]; rfl
          have hL' := hide hL
          clear hf hL
          go_wp2_with fail
          refine hc.out.mono ?_
          rintro e w3 ⟨rfl, hd⟩
          have hwas : Blk w3 w2.heap.size 39 #[.slice A z.L.length c] := by
            obtain ⟨_, _, hm, _⟩ := hd
            exact HP0.out.was.mods hm HP0.out.gwF
          have hd' := hide hd
          have cw := hwas.cell 0
          have fw := hwas.frozen 0
          clear hd hwas
          go_wp2_with fail
          go_meet
          have hl0 : z.reset.1.L.length = 0 := by rw [hL'.out]; rfl
          have := HP0.out.stored (A' := none) (c' := 0) hd'.out (Below.refl _ _) (by rw [hl0, hL'.out]; exact World.ownsRow_nil _ _ _ _) (fun g hg => by simp [Value.ownBlock] at hg)
          rw [hl0] at this
          exact ⟨_, hzo.out, this⟩
        · have hL' := hide hL
          clear hL
          go_wp2_with fail
          refine hc.out.mono ?_
          rintro e w3 ⟨rfl, hd⟩
          have hd' := hide hd
          clear hd
          go_wp2_with fail
          go_meet
          exact ⟨_, hzo.out, HP0.out.zone hd'.out hL'.out⟩
      by_cases h4 : o1 = 4
      · have e1 : (o1 == 1) = false := beq_eq_false_iff_ne.2 h1
        have e3 : (o1 == 3) = false := beq_eq_false_iff_ne.2 h3
        have e4 : (o1 == 4) = true := beq_iff_eq.2 h4
        have hc := hide (ZI.finish_any z w1.heap.size W0 F Hzone.out)
        have hzo : Hid (Zn.Ok z.finish.1) := hide (stepZ_ok hok'.out 4 0 0)
        clear h1 h3 h4
        go_wp2_with fail
        refine hc.out.mono ?_
        rintro e w3 ⟨rfl, hd⟩
        have hd' := hide hd
        clear hd
        go_wp2_with fail
        go_meet
        exact ⟨_, hzo.out, HP0.out.zone hd'.out (finish_plain z)⟩
      by_cases h5 : o1 = 5
      · have e1 : (o1 == 1) = false := beq_eq_false_iff_ne.2 h1
        have e3 : (o1 == 3) = false := beq_eq_false_iff_ne.2 h3
        have e4 : (o1 == 4) = false := beq_eq_false_iff_ne.2 h4
        have e5 : (o1 == 5) = true := beq_iff_eq.2 h5
        have hc := hide (ZI.flush_any z w1.heap.size W0 F Hzone.out)
        have hzo : Hid (Zn.Ok z.flush) := hide (stepZ_ok hok'.out 5 0 0)
        clear h1 h3 h4 h5
        go_wp2_with fail
        refine hc.out.mono ?_
        rintro e w3 ⟨rfl, hd⟩
        have hd' := hide hd
        clear hd
        go_wp2_with fail
        go_meet
        exact ⟨_, hzo.out, HP0.out.zone hd'.out rfl⟩
      by_cases h6 : o1 = 6
      · have e1 : (o1 == 1) = false := beq_eq_false_iff_ne.2 h1
        have e3 : (o1 == 3) = false := beq_eq_false_iff_ne.2 h3
        have e4 : (o1 == 4) = false := beq_eq_false_iff_ne.2 h4
        have e5 : (o1 == 5) = false := beq_eq_false_iff_ne.2 h5
        have e6 : (o1 == 6) = true := beq_iff_eq.2 h6
        have hc := hide (ZI.crash_any z o2 w1.heap.size W0 F Hzone.out Hlen.out hok'.out.safe)
        have hzo : Hid (Zn.Ok (z.crash o2)) := hide (stepZ_ok hok'.out 6 o2 0)
        have hlf := Zn.left_le o2 hok'.out.safe
        have hlf2 : z.safe ≤ z.left o2 := by unfold Zn.left; omega
        have hlf3 : ((z.left o2 : Nat) : Int) ≤ (z.safe : Int) + max o2 0 := by unfold Zn.left; omega
        have hLz : (z.crash o2).L = z.L.take (z.left o2) := rfl
        have hLl : (z.crash o2).L.length = z.left o2 := by rw [hLz, List.length_take]; omega
        generalize hm : z.left o2 = m at *
        clear h1 h3 h4 h5 h6
        have HL := hide hLz
        have HLl := hide hLl
        have Hm := hide hm
        have Hlf := hide hlf
        have d1 : decide ((m : Int) < (z.safe : Int)) = false := decide_eq_false (by omega)
        have d1' : decide (m < z.safe) = false := decide_eq_false (by omega)
        have d2 : decide ((z.L.length : Int) < (m : Int)) = false := decide_eq_false (by omega)
        have d2' : decide (z.L.length < m) = false := decide_eq_false (by omega)
        have d4 : m < z.L.length → decide (wrap64 ((z.safe : Int) + if o2 < 0 then 0 else o2) < (m : Int)) = false := fun hml => by
          have h65 := Hlen.out
          have hsf := hok'.out.safe
          unfold Zn.left at hm
          have ho : o2 < 65536 := by omega
          refine decide_eq_false ?_
          by_cases hneg : o2 < 0
          · rw [if_pos hneg, Int.add_zero, IntWalk.wrap64_in _ ⟨by omega, by omega⟩]; omega
          · rw [if_neg hneg, IntWalk.wrap64_in _ ⟨by omega, by omega⟩]; omega
        have d5 : m < z.L.length → decide (IntKind.i64.wrap ((z.safe : Int) + if o2 < 0 then 0 else o2) < (m : Int)) = false := fun hml => by
          have h65 := Hlen.out
          have hsf := hok'.out.safe
          unfold Zn.left at hm
          have ho : o2 < 65536 := by omega
          refine decide_eq_false ?_
          by_cases hneg : o2 < 0
          · rw [if_pos hneg, Int.add_zero, IntWalk.i64_in _ (by omega)]; omega
          · rw [if_neg hneg, IntWalk.i64_in _ (by omega)]; omega
        clear hLz hLl hm hlf hlf2 hlf3
        go_wp2_with fail
        refine hc.out.mono ?_
        rintro e w3 ⟨rfl, hd⟩
        have hwas : Blk w3 w2.heap.size 39 #[.slice A z.L.length c] := by
          obtain ⟨_, _, hm, _⟩ := hd
          exact HP0.out.was.mods hm HP0.out.gwF
        have hb3 : Blk w3 wr.heap.size 41 #[.int .i64 o1, .int .i64 o2, .int .i64 o3] := by
          obtain ⟨_, _, hm, _⟩ := hd
          exact kb0.mods hm hFw
        have hr := hide (refThen HP0.out.both hd)
        have hd' := hide hd
        have cw : w3.cell? ⟨w2.heap.size, 0, none⟩ = some (.slice A z.L.length c) := hwas.cell 0
        have fw := hwas.frozen 0
        have b1' : w3.cell? ⟨wr.heap.size, 1, none⟩ = some (.int .i64 o2) := hb3.cell 1
        obtain ⟨F', hz3, -⟩ := hd
        obtain ⟨zA3, zc3, y0, y2, y3⟩ := hz3.cells
        rw [HLl.out] at y0
        have y0 := hide y0
        have hlenc : Hid (∀ n, Calls Try.prog 21 #[.pointer (some ⟨w1.heap.size, 0, none⟩)] (w3.drewN n) fun e w' => e = .returned (.int .i64 (m : Int)) ∧ w' = w3.drewN n) := hide (fun n => (ZI.len_any w1.heap.size _ _ _ (w3.drewN n) y0.out).mono (fun _ _ h => ⟨h.1, h.2.symm⟩))
        have hAn : Hid (A = none → m = 0) := hide (fun e => by have := (own_cap hr.out.1).2.2 e; have := Hlf.out; omega)
        have hmc : m ≤ c := by have := (own_cap hr.out.1).1; have := Hlf.out; omega
        clear hz3 hwas hb3 y2 y3
        by_cases hml : m < z.L.length
        · have d3 : decide ((m : Int) < (z.L.length : Int)) = true := decide_eq_true (by omega)
          have d3' : decide (m < z.L.length) = true := decide_eq_true hml
          have d4 := d4 hml
          have d4' := d5 hml
          clear hml d5
          go_upto_region 25 with (fail)
          go_quiet ((go_at_call 21; exact Calls.quiet_of_same (hlenc.out _)))
          obtain ⟨w4, hw4⟩ : ∃ w4, w4 = w3.drewN nq := ⟨_, rfl⟩
          have cw4 : w4.cell? ⟨w2.heap.size, 0, none⟩ = some (.slice A z.L.length c) := by rw [hw4]; exact cw
          have fw4 : w4.frozen? ⟨w2.heap.size, 0, none⟩ = false := by rw [hw4]; exact fw
          have y4 : w4.cell? ⟨w1.heap.size, 0, none⟩ = some (.slice zA3 m zc3) := by rw [hw4]; exact y0.out
          have hlenc2 := hide ((ZI.len_any w1.heap.size _ _ _ w4.drew y4).mono (fun _ _ h => (⟨h.1, h.2.symm⟩ : _ ∧ _ = w4.drew)))
          rw [← hw4]
          have Hw4 := hide hw4
          clear hw4 cw fw b1' y4 hlenc
          go_upto_region 27 with (fail)
          clear d1 d1' d2 d2' d3 d3' d4 d4'
          refine wp_region_still_tail 4 (by decide +kernel) (by decide +kernel) ?_
          simp only [List.take_succ_cons, List.take_zero, List.drop_succ_cons, List.drop_zero]
          still_step
          still_step
          still_call hlenc2.out
          still_step
          refine wpStill_nil ?_
          change wpList _ _ _ _ _ w4.drew
          go_wp2_with fail
          all_goals
            go_meet
            refine ⟨_, hzo.out, ?_⟩
            have hown := own_take hr.out.1 Hlf.out hAn.out
            have hkeep : ∀ g, (Value.slice A m c).ownBlock = some g → (Value.slice A z.L.length c).ownBlock = some g := fun g hg => by cases A <;> exact hg
            have hbw : Below w3.heap.size w3 w4.drew := by rw [Hw4.out]; exact (below_drewN (Below.refl w3.heap.size w3) nq).drew
            have := HP0.out.stored (A' := A) (c' := c) hd'.out hbw (by rw [HLl.out, HL.out, List.map_take, Hw4.out]; exact hown) (fun g hg => .inl (hr.out.2 g (hkeep g (by rw [HLl.out] at hg; exact hg))))
            rw [HLl.out] at this
            exact this
        · obtain rfl : m = z.L.length := by have := Hlf.out; omega
          clear hml d4 d5 d2 d2'
          go_upto_region 25 with (fail)
          go_quiet ((go_at_call 21; exact Calls.quiet_of_same (hlenc.out _)))
          obtain ⟨w4, hw4⟩ : ∃ w4, w4 = w3.drewN nq := ⟨_, rfl⟩
          have cw4 : w4.cell? ⟨w2.heap.size, 0, none⟩ = some (.slice A z.L.length c) := by rw [hw4]; exact cw
          have fw4 : w4.frozen? ⟨w2.heap.size, 0, none⟩ = false := by rw [hw4]; exact fw
          have y4 : w4.cell? ⟨w1.heap.size, 0, none⟩ = some (.slice zA3 z.L.length zc3) := by rw [hw4]; exact y0.out
          have hlenc2 := hide ((ZI.len_any w1.heap.size _ _ _ w4.drew y4).mono (fun _ _ h => (⟨h.1, h.2.symm⟩ : _ ∧ _ = w4.drew)))
          rw [← hw4]
          have Hw4 := hide hw4
          clear hw4 cw fw b1' y4 hlenc
          go_upto_region 27 with (fail)
          clear d1 d1'
          refine wp_region_still_tail 4 (by decide +kernel) (by decide +kernel) ?_
          simp only [List.take_succ_cons, List.take_zero, List.drop_succ_cons, List.drop_zero]
          still_step
          still_step
          still_call hlenc2.out
          still_step
          refine wpStill_nil ?_
          change wpList _ _ _ _ _ w4.drew
          go_wp2_with fail
          all_goals
            go_meet
            refine ⟨_, hzo.out, ?_⟩
            have hown := own_take hr.out.1 Hlf.out hAn.out
            have hkeep : ∀ g, (Value.slice A z.L.length c).ownBlock = some g → (Value.slice A z.L.length c).ownBlock = some g := fun g hg => by cases A <;> exact hg
            have hbw : Below w3.heap.size w3 w4.drew := by rw [Hw4.out]; exact (below_drewN (Below.refl w3.heap.size w3) nq).drew
            have := HP0.out.stored (A' := A) (c' := c) hd'.out hbw (by rw [HLl.out, HL.out, List.map_take, Hw4.out]; exact hown) (fun g hg => .inl (hr.out.2 g (hkeep g (by rw [HLl.out] at hg; exact hg))))
            rw [HLl.out] at this
            exact this
      by_cases h7 : o1 = 7
      · have e1 : (o1 == 1) = false := beq_eq_false_iff_ne.2 h1
        have e3 : (o1 == 3) = false := beq_eq_false_iff_ne.2 h3
        have e4 : (o1 == 4) = false := beq_eq_false_iff_ne.2 h4
        have e5 : (o1 == 5) = false := beq_eq_false_iff_ne.2 h5
        have e6 : (o1 == 6) = false := beq_eq_false_iff_ne.2 h6
        have e7 : (o1 == 7) = true := beq_iff_eq.2 h7
        have hc := hide (ZI.fail_any z o2 w1.heap.size W0 F Hzone.out)
        have hzo : Hid (Zn.Ok (z.fail o2)) := hide (stepZ_ok hok'.out 7 o2 0)
        clear h1 h3 h4 h5 h6 h7
        go_wp2_with fail
        refine hc.out.mono ?_
        rintro e w3 ⟨rfl, hd⟩
        have hd' := hide hd
        clear hd
        go_wp2_with fail
        go_meet
        exact ⟨_, hzo.out, HP0.out.zone hd'.out (fail_plain z o2)⟩
      have e1 : (o1 == 1) = false := beq_eq_false_iff_ne.2 h1
      have e3 : (o1 == 3) = false := beq_eq_false_iff_ne.2 h3
      have e4 : (o1 == 4) = false := beq_eq_false_iff_ne.2 h4
      have e5 : (o1 == 5) = false := beq_eq_false_iff_ne.2 h5
      have e6 : (o1 == 6) = false := beq_eq_false_iff_ne.2 h6
      have e7 : (o1 == 7) = false := beq_eq_false_iff_ne.2 h7
      clear h1 h3 h4 h5 h6 h7
      go_wp2_with fail
      go_meet
      exact ⟨_, hok'.out, _, _, _, _, HP0.out⟩
    case rest =>
      obtain ⟨z', hok1, A', c', F1, G1, hP1⟩ := hcut
      clear Hzone HP0 Hlen Hsafe z0 z2 z3 b0 b1 b2 hP0 kb0 hba zA zc hFw hpre' hok' hpre0 hok0
      generalize hfr : (Act.mk _ _) = fr
      have hfr' : fr = preFrame size (some ⟨ab, off, none⟩) os.length cap1 w.heap.size w1.heap.size w2.heap.size k Ds (fun i => fr.tmps.getD i undef) := by subst hfr; rfl
      generalize (fun i => fr.tmps.getD i undef) = v1 at hfr'
      subst hfr'
      clear hfr
      unfold preFrame
      obtain ⟨zA, zc, hzb, -, hown, -⟩ := hP1.both.zone
      have z0 : wc.cell? ⟨w1.heap.size, 0, none⟩ = some (.slice zA z'.L.length zc) := hzb.cell 0
      have hzI := hide (Ints.of_own hown)
      have hrI := hide (Ints.of_own hP1.both.ref.1)
      have cw0 : wc.cell? ⟨w2.heap.size, 0, none⟩ = some (.slice A' z'.L.length c') := hP1.was.cell 0
      have hgwl := hP1.was.lt
      have HP1 := hide hP1
      have Hok1 := hide hok1
      have hlen1 := hide hok1.lt
      have hb1w := hP1.both.zone.lt
      have hbel1 := hP1.bel
      clear hP1 hown
      go_wp2_with fail
      have y0 : (wc.alloc (.cells #[.int .i64 0] 3)).cell? ⟨w1.heap.size, 0, none⟩ = some (.slice zA z'.L.length zc) := (((Below.refl wc.heap.size wc).alloc (Nat.le_refl _) _).cell (p := ⟨w1.heap.size, 0, none⟩) hb1w).trans z0
      refine (all_any w1.heap.size zA z'.L.length zc _ y0).mono ?_
      rintro e wq ⟨rfl, rfl⟩
      go_wp2_with fail
      have hB : Below wc.heap.size wc ((wc.alloc (.cells #[.int .i64 0] 3)).alloc (.cells #[.slice zA z'.L.length zc] 39)) := ((Below.refl wc.heap.size wc).alloc (Nat.le_refl _) _).alloc (by simp) _
      have k0 : Blk ((wc.alloc (.cells #[.int .i64 0] 3)).alloc (.cells #[.slice zA z'.L.length zc] 39)) wc.heap.size 3 #[.int .i64 0] := (Blk.new wc _ _).alloc _
      have k1 : Blk ((wc.alloc (.cells #[.int .i64 0] 3)).alloc (.cells #[.slice zA z'.L.length zc] 39)) (wc.heap.size + 1) 39 #[.slice zA z'.L.length zc] := by
        have := Blk.new (wc.alloc (.cells #[.int .i64 0] 3)) 39 #[.slice zA z'.L.length zc]
        rwa [World.size_alloc] at this
      obtain ⟨W4, hW4⟩ : ∃ W4, W4 = (wc.alloc (.cells #[.int .i64 0] 3)).alloc (.cells #[.slice zA z'.L.length zc] 39) := ⟨_, rfl⟩
      rw [← hW4] at hB k0 k1 ⊢
      clear hW4 y0 z0
      have hlt1 := k1.lt
      have hk0 := hide k0
      have hk1 := hide k1
      have hBs := hB.size
      clear k0 k1
      refine wp_rangeFunc_own rfl (fun _ _ => rfl) (encs := encs z'.L) (n₀ := wc.heap.size) (all_stops Fence.wide 8 trivial rfl (by omega) (wc.heap.size + 1) wc.heap.size zA zc z'.L (by have := hlen1.out; omega) W4 hlt1 hBs (hk1.out.cell 0) (hzI.out.below hB)) hBs (fun _ => rfl)
        (fun pre W => Blk W wc.heap.size 3 #[.int .i64 (pre.length : Int)] ∧ Below wc.heap.size wc W)
        (fun _ _ _ => False) ?_ (fun _ => ownFrom_pure _ _) ⟨hk0.out, hB⟩
        (fun x => preRow size (some ⟨ab, off, none⟩) os.length cap1 w.heap.size w1.heap.size w2.heap.size k v1 (.pointer (some ⟨wc.heap.size, 0, none⟩)) (.func (.func 42) #[] #[.pointer (some ⟨wc.heap.size + 1, 0, none⟩)]) (.int .i64 (x.1 : Int)) (.int .i64 z'.L[x.1]))
        ?_ ?_ ?_ ?_
      · exact (ownFrom_blk' _ _ _ (fun (pre : List (Fin z'.L.length)) => #[.int .i64 (pre.length : Int)])).and (ownFrom_below (Nat.le_refl _) hBs)
      · intro l x W K hK
        unfold preRow at hK
        dsimp only [encs]
        gi_wp2
        exact hK
      · rintro l pre ⟨i, hl⟩ W ⟨i0, iB⟩ hpre
        obtain ⟨bo, off', hA, hbo, hce⟩ := (hrI.out.below iB) i hl
        subst hA
        have c1 : W.cell? ⟨w2.heap.size, 0, none⟩ = some (.slice (some ⟨bo, off', none⟩) z'.L.length c') := (iB.cell (p := ⟨w2.heap.size, 0, none⟩) hgwl).trans cw0
        have c2 : W.cell? ⟨wc.heap.size, 0, none⟩ = some (.int .i64 (pre.length : Int)) := i0.cell 0
        have f2 := i0.frozen 0
        have hge : decide (z'.L.length ≤ i) = false := by simp [hl]
        have Hi0 := hide i0
        have hpl : pre.length < 65536 := by have := hlen1.out; omega
        clear i0
        unfold preRow
        gi_wp2
        refine ⟨?_, ?_, ?_, ?_⟩
        · exact keepsFrom_setCell W (p := ⟨wc.heap.size, 0, none⟩) (by simp; omega) _
        · exact (Below.refl wc.heap.size W).setCell (p := ⟨wc.heap.size, 0, none⟩) (Nat.le_refl _) _
        · simpa using Hi0.out.set_ 0 (.int .i64 ((pre.length : Int) + 1))
        · exact iB.setCell (p := ⟨wc.heap.size, 0, none⟩) (Nat.le_refl _) _
      · rintro D xs W hD rfl ⟨i0, iB⟩ hdef
        have hl := upto_length (Nat.le_refl z'.L.length)
        rw [hl] at i0
        have c1 : W.cell? ⟨w2.heap.size, 0, none⟩ = some (.slice A' z'.L.length c') := (iB.cell (p := ⟨w2.heap.size, 0, none⟩) hgwl).trans cw0
        have c2 : W.cell? ⟨wc.heap.size, 0, none⟩ = some (.int .i64 (z'.L.length : Int)) := i0.cell 0
        have y2 : W.cell? ⟨w1.heap.size, 2, none⟩ = some (.int .i64 (z'.safe : Int)) := (iB.cell (p := ⟨w1.heap.size, 2, none⟩) hb1w).trans (hzb.cell 2)
        have hsafe : Hid (∀ n, Calls Try.prog 15 #[.pointer (some ⟨w1.heap.size, 0, none⟩)] (W.drewN n) fun e w' => e = .returned (.int .i64 (z'.safe : Int)) ∧ w' = W.drewN n) := hide (fun n => (ZI.safe_any w1.heap.size z'.safe (W.drewN n) y2).mono (fun _ _ h => ⟨h.1, h.2.symm⟩))
        have dS : decide ((z'.L.length : Int) < (z'.safe : Int)) = false := decide_eq_false (by have := Hok1.out.safe; omega)
        have dS' : decide (z'.L.length < z'.safe) = false := decide_eq_false (by have := Hok1.out.safe; omega)
        clear hl i0 y2
        go_upto_region 37 with (fail)
        go_quiet ((go_at_call 15; exact Calls.quiet_of_same (hsafe.out _)))
        go_wp2_with fail
        refine ⟨⟨k + 1, D :: Ds, rfl, by omega, z', Hok1.out, ?_⟩, by simp [intOf]; omega⟩
        exact HP1.out.mark (below_drewN iB nq) (Nat.le_trans hBs hD) hdef
      · rintro D cc pre W hD - hF
        exact hF.elim
  · obtain rfl : k = os.length := by omega
    have h4 : Blk wr w.heap.size 4 #[.bool false] := (hbel.block w.heap.size h5lt).trans h5b0
    have c4 := h4.cell 0
    have f4 := h4.frozen 0
    have hP' := hide hP
    clear hP
    go_wp2_with fail
    refine leaves_marks Ds _ (fun D hD => ?_) hP'.out.nodup (fun w' hw' => ?_)
    · obtain ⟨d1, d2, d3, d4, d5⟩ := hP'.out.ds D hD
      exact (Below.heap_setCell wr ⟨w.heap.size, 0, none⟩ _ D (by simp; omega)).trans d1
    · have hn : w.heap.size ∉ Ds := fun hD => by have := (hP'.out.ds _ hD).2.2.2.2; omega
      have hc : w'.cell? ⟨w.heap.size, 0, none⟩ = some (.bool true) := by
        have hk : w'.heap[w.heap.size]? = (wr.setCell ⟨w.heap.size, 0, none⟩ (.bool true)).heap[w.heap.size]? := hw'.2.2.2.2 _ hn
        have := (h4.set_ 0 (.bool true)).of_heap hk rfl
        simpa using this.cell 0
      refine ⟨.bool true, by simp [results, Try.f4, go_sem, hc], rfl, ?_⟩
      exact (hbelw.setCell (p := ⟨w.heap.size, 0, none⟩) (Nat.le_refl _) _).trans (below_marks hw' (fun D hD => by have := (hP'.out.ds D hD).2.2.2.2; omega))
end Go.Proofs.Ytahlphclighccaa
