/-
  The walk of PlanPlays: it answers true, and nothing that was there has turned.
-/
import Derived.Test.YtdinbhanekpjoaaQP
import Derived.ProofKit
namespace Go.Proofs.Ytdinbhanekpjoaa
open Go.RowKit
open S8
set_option maxRecDepth 100000 in
set_option maxHeartbeats 4000000 in
theorem plays8_walk (n : Nat) (size op : Int) (A1 : Option Addr) (cap1 : Nat) (ps : List OpP) (w : World) (h1 : CameOps8 w A1 ps) (hz1 : 1 ≤ n) (hz2 : n ≤ 40) (hs1 : 1 ≤ size) (hs2 : size ≤ 64) (ho1 : 1 ≤ op) (ho2 : op ≤ 64) (hn1 : ps.length ≤ 60) :
    Calls Try.prog 12 #[.int .i64 (n : Int), .int .i64 size, .int .i64 op, .slice A1 ps.length cap1] w fun e w' => e = .returned (.bool true) ∧ Below w.heap.size w w' := by
  have h1' := hide h1
  have Hst := hide (fun w => started_yes n size op w hz1 hz2 hs1 hs2 ho1 ho2)
  have Hfits := hide (fun p (hp : p ∈ ps) => (h1.1 p hp).2.2)
  have Hsz := hide hs2
  have d3 : decide (60 < ps.length) = false := decide_eq_false (by omega)
  have d4 : decide ((60 : Int) < (ps.length : Int)) = false := decide_eq_false (by omega)
  have Hn1 := hide hn1
  have Hz := hide (And.intro hz1 hz2)
  clear h1 hs1 hs2 ho1 ho2 hn1 hz1 hz2
  go_enter Try.func12, Try.ntmps12
  go_wp2_with fail
  refine (anchor8_any _).mono ?_
  rintro e w1 ⟨rfl, hb1⟩
  go_wp2_with fail
  refine (Hst.out _).mono ?_
  rintro e w2 ⟨q, d, A', c', rfl, hbeg⟩
  have Hb1 := hide hb1
  have Hbeg := hide hbeg
  clear hb1 hbeg Hst
  unfold agg8
  go_upto_region 4 with (fail)
  have hrel0 := hide (Rel8.start Hb1.out Hbeg.out)
  have Hgd0 := hide (Dr.Good.made n size op)
  have Hlen0 : Hid ((DV.Dr.made n size op).D.zs.length = n) := hide (by simp [DV.Dr.made, Dv.made])
  have Hsz0 : Hid ((DV.Dr.made n size op).D.size ≤ 64) := hide Hsz.out
  generalize DV.Dr.made n size op = X0 at hrel0 Hgd0 Hlen0 Hsz0 ⊢
  clear Hbeg Hb1 Hsz
  generalize w2.alloc _ = wI at hrel0 ⊢
  generalize w2.heap.size = gb at hrel0 ⊢
  go_wp2_with fail
  go_loopw [60] (fun i wr => ∃ k : Nat, k ≤ ps.length ∧ i = .int .i64 k ∧ Rel8 w (fun _ => False) gb q d (X0.playTo ps k) wr) (fun i _ => ps.length - (intOf i).toNat)
  case atStart => exact ⟨0, Nat.zero_le _, rfl, hrel0.out⟩
  case round =>
    obtain ⟨k, hk, rfl, hR⟩ := hrel
    have HR := hide hR
    obtain ⟨hgk, hlk⟩ := Dr.Good.playTo Hgd0.out Hfits.out k hk (by have := Hn1.out; omega)
    rw [Nat.zero_add] at hgk
    have Hsucc := hide (fun h : k < ps.length => Dr.playTo_succ X0 ps k h)
    generalize hXk : X0.playTo ps k = X at HR Hsucc hgk hlk hR
    have HGd := hide hgk
    have Hlen : Hid (X.D.zs.length = n) := hide (hlk.len.trans Hlen0.out)
    have HszX : Hid (X.D.size ≤ 64) := hide (by rw [hlk.size]; exact Hsz0.out)
    clear hgk hlk hR hXk
    by_cases hlt : k < ps.length
    · obtain ⟨ab, off, rfl, hab, hck⟩ := (h1'.out.below HR.out.world).2 (by omega)
      have Hck := hide (hck k hlt)
      have HZ := hide (Blk.new wr 68 OpP.zero.cells.toArray)
      have hba : Below wr.heap.size wr ((wr.alloc (.cells OpP.zero.cells.toArray 68)).setRow wr.heap.size ps[k].cells.toArray) := below_setRow ((Below.refl _ wr).alloc (Nat.le_refl _) _) (Nat.le_refl _) _
      have hko := HZ.out.setRow ps[k].cells.toArray
      have hmem : ps[k] ∈ ps := List.getElem_mem hlt
      have hci := h1'.out.1 _ hmem
      obtain ⟨A', c', Ac', cc', Ah', ch', hgb, hstep⟩ := HR.out.step HGd.out (by have := Hn1.out; omega) (by have := Hlen.out; have := Hz.out.2; omega) HszX.out ps[k] hci.2.2 hci.1 hci.2.1
      clear hck hci
      go_upto_region 9 with (first | ((with_reducible refine wpList_load_mid ?g1 68 (.tmp 62) ?o1 ab (off + k * 136) ?x1 ps[k].cells ?d1 ?r1 ?u1 ?f1 ?i1 ?_); (case g1 => exact rfl); (case o1 => exact rfl); (case x1 => exact rfl); (case r1 => exact Hck.out); (case u1 => exact Try.underlying68); (case f1 => exact rfl); (case i1 => exact sizeOp8 _)) | ((with_reducible refine wpList_store_row ?g2 68 (.tmp 13) (.tmp 63) ?o2 wr.heap.size ps[k].cells.toArray ?x2 ?y2 68 OpP.zero.cells.toArray ?k2 ?s2 ?l2 ?a2 ?_); (case g2 => exact rfl); (case o2 => exact rfl); (case x2 => exact rfl); (case y2 => exact rfl); (case k2 => exact HZ.out); (case s2 => exact sizeOp8R _); (case l2 => simp [OpP.length]); (case a2 => exact OpP.all _)))
      generalize hWA : World.setRow (World.alloc wr _) _ _ = wa
      have hWA' : (wr.alloc (.cells OpP.zero.cells.toArray 68)).setRow wr.heap.size ps[k].cells.toArray = wa := hWA
      rw [hWA'] at hba hko
      clear hWA hWA' HZ Hck
      have Hba := hide hba
      have KO := hide hko
      have HS := hide (hstep wa hba)
      have Hgb := hide hgb
      obtain ⟨ob, hob⟩ : ∃ b, b = wr.heap.size := ⟨_, rfl⟩
      rw [← hob] at KO ⊢
      have Hob := hide hob
      clear hba hko hstep hgb hmem hob
      have hga := (Hba.out.block _ Hgb.out.lt).trans Hgb.out
      obtain ⟨a0, a1, a2, a3, a4, a5, a6, -⟩ := Blk.seven (show Blk wa gb 62 _ from hga)
      clear hga
      unfold agg8 at HS
      go_wp2_with ((with_reducible refine wpList_load_mid ?g2 68 (.tmp 13) ?o2 ob (0) ?x2 ps[k].cells ?d2 ?r2 ?u2 ?f2 ?i2 ?_); (case g2 => exact rfl); (case o2 => exact rfl); (case x2 => exact rfl); (case r2 => exact range_op8 _ KO.out); (case u2 => exact Try.underlying68); (case f2 => exact rfl); (case i2 => exact sizeOp8 _))
      refine HS.out.mono ?_
      rintro e w3 ⟨A2, c2, Ac2, cc2, Ah2, ch2, rfl, hg3, hrel3, hm3⟩
      clear a0 a1 a2 a3 a4 a5 a6 HS
      generalize hX' : X.play ps[k] = X' at hrel3 hm3 ⊢
      have HX' := hide hX'
      have Hr3 := hide (fun W hW => hrel3.cast (w1 := W) hW)
      have Hm3 := hide (fun W hW => Mods.castW hm3 (w1 := W) hW)
      obtain ⟨a0, a1, a2, a3, a4, a5, a6, f0, f1, f2, f3, f4, f5, f6⟩ := hg3.seven
      clear hg3 hrel3 hm3 hX'
      go_upto_region 10 with (fail)
      clear a0 a1 a2 a3 a4 a5 a6 f0 f1 f2 f3 f4 f5 f6
      generalize hW : World.setCell (World.setCell (World.setCell (World.setCell (World.setCell (World.setCell (World.setCell _ _ _) _ _) _ _) _ _) _ _) _ _) _ _ = w6
      have HR6 := hide (Hr3.out w6 hW)
      have HM6 := hide (Hm3.out w6 hW)
      clear hW Hr3 Hm3
      have HGd' := hide (HX'.out ▸ (HGd.out.play (by have := Hn1.out; omega) (Hfits.out _ (List.getElem_mem hlt))).1 : X'.Good (k + 1))
      have Hlk' := hide (HX'.out ▸ (HGd.out.play (by have := Hn1.out; omega) (Hfits.out _ (List.getElem_mem hlt))).2 : X.D.Like X'.D)
      obtain ⟨F6, G6, A6, c6, es6, Ac6, cc6, Ah6, ch6, hT6, hg6, x1, x2, x3, x4, x5, x6, x7, x8⟩ := HR6.out
      have hsm := Same8.same8_any hT6 (by have := Hlk'.out.len; have := Hlen.out; have := Hz.out.2; omega) (HGd'.out.bd (by have := Hn1.out; omega)).zs (by have := HGd'.out.cnt; have := Hn1.out; omega)
      unfold agg8 at hsm
      have Hsm := hide hsm
      obtain ⟨a0, a1, a2, a3, a4, a5, a6, -⟩ := hg6.seven
      clear hT6 hg6 x1 x2 x3 x4 x5 x6 x7 x8 hsm HM6 KO Hob Hba Hgb
      go_wp2_with fail
      refine Hsm.out.mono ?_
      rintro e w7 ⟨rfl, hb7⟩
      have Hr7 := hide (HR6.out.below hb7)
      have hk60 : ps.length ≤ 60 := Hn1.out
      clear a0 a1 a2 a3 a4 a5 a6 hb7 Hsm
      go_wp2_with fail
      go_roundw
      case rel => exact ⟨k + 1, by omega, by go_num, by rw [Hsucc.out hlt, HX'.out]; exact Hr7.out⟩
      case measure => simp [intOf]; omega
    · obtain rfl : k = ps.length := by omega
      have hw := HR.out.world
      go_wp2_with fail
      go_ret
      exact ⟨rfl, hw⟩
end Go.Proofs.Ytdinbhanekpjoaa

/-
  PlanPlays answers true for every number of zones, size, bound and slice of steps, and each argument reads behind the call as it read before: no condition.
-/
namespace Go.Proofs.Ytdinbhanekpjoaa.planPlays
open Go.ChangeShapes Go.WideShapes Go.ChangeAt Go.RowKit

set_option maxRecDepth 100000 in
set_option maxHeartbeats 2000000 in
theorem any (zones size op : Int) (A1 : Option Addr) (cap1 : Nat) (ps : List OpP) (w : World) (h1 : CameOps8 w A1 ps) (b1 : ps.length ≤ maxLen) :
    Calls Try.prog 12 #[.int .i64 zones, .int .i64 size, .int .i64 op, .slice A1 ps.length cap1] w fun e w' => e = .returned (.bool true) ∧ Below w.heap.size w w' := by
  unfold maxLen at b1
  by_cases hr : 1 ≤ zones ∧ zones ≤ 40 ∧ 1 ≤ size ∧ size ≤ 64 ∧ 1 ≤ op ∧ op ≤ 64
  · obtain ⟨r1, r2, r3, r4, r5, r6⟩ := hr
    obtain ⟨n, rfl⟩ := Int.eq_ofNat_of_zero_le (show 0 ≤ zones by omega)
    by_cases hlen : ps.length ≤ 60
    · exact plays8_walk n size op A1 cap1 ps w h1 (by omega) (by omega) r3 r4 r5 r6 hlen
    · have d3 : decide (60 < ps.length) = true := decide_eq_true (by omega)
      have d4 : decide ((60 : Int) < (ps.length : Int)) = true := decide_eq_true (by omega)
      have Hs := hide (fun w => started_yes n size op w (by omega) (by omega) r3 r4 r5 r6)
      have e0 : decide ((n : Int) < 1) = false := decide_eq_false (by omega)
      have e1 : decide (40 < (n : Int)) = false := decide_eq_false (by omega)
      have e2 : decide (size < 1) = false := decide_eq_false (by omega)
      have e3 : decide (64 < size) = false := decide_eq_false (by omega)
      have e4 : decide (op < 1) = false := decide_eq_false (by omega)
      have e5 : decide (64 < op) = false := decide_eq_false (by omega)
      clear h1 r1 r2 r3 r4 r5 r6 hlen b1
      go_enter Try.func12, Try.ntmps12
      go_wp2_with fail
      refine (anchor8_any _).mono ?_
      rintro e w1 ⟨rfl, hb1⟩
      go_wp2_with fail
      refine (Hs.out _).mono ?_
      rintro e w2 ⟨q, d, A', c', rfl, F, G, es', hT, hb2, hF, hG⟩
      clear hT hF hG
      unfold agg8
      go_wp2_with fail
      go_ret
      exact ⟨rfl, (hb1.trans (hb2.mono hb1.size)).alloc (Nat.le_trans hb1.size hb2.size) _⟩
  · have Hs := hide (fun w => started_no zones size op w hr)
    clear h1 b1
    by_cases c0 : zones < 1
    · have e0 : decide (zones < 1) = true := decide_eq_true c0
      clear hr c0
      go_enter Try.func12, Try.ntmps12
      go_wp2_with fail
      refine (anchor8_any _).mono ?_
      rintro e w1 ⟨rfl, hb1⟩
      go_wp2_with fail
      refine (Hs.out _).mono ?_
      rintro e w2 ⟨rfl, hb2⟩
      go_wp2_with fail
      go_ret
      exact ⟨rfl, (hb1.trans (hb2.mono hb1.size)).alloc (Nat.le_trans hb1.size hb2.size) _⟩
    have e0 : decide (zones < 1) = false := decide_eq_false c0
    by_cases c1 : 40 < zones
    · have e1 : decide (40 < zones) = true := decide_eq_true c1
      clear hr c0 c1
      go_enter Try.func12, Try.ntmps12
      go_wp2_with fail
      refine (anchor8_any _).mono ?_
      rintro e w1 ⟨rfl, hb1⟩
      go_wp2_with fail
      refine (Hs.out _).mono ?_
      rintro e w2 ⟨rfl, hb2⟩
      go_wp2_with fail
      go_ret
      exact ⟨rfl, (hb1.trans (hb2.mono hb1.size)).alloc (Nat.le_trans hb1.size hb2.size) _⟩
    have e1 : decide (40 < zones) = false := decide_eq_false c1
    by_cases c2 : size < 1
    · have e2 : decide (size < 1) = true := decide_eq_true c2
      clear hr c0 c1 c2
      go_enter Try.func12, Try.ntmps12
      go_wp2_with fail
      refine (anchor8_any _).mono ?_
      rintro e w1 ⟨rfl, hb1⟩
      go_wp2_with fail
      refine (Hs.out _).mono ?_
      rintro e w2 ⟨rfl, hb2⟩
      go_wp2_with fail
      go_ret
      exact ⟨rfl, (hb1.trans (hb2.mono hb1.size)).alloc (Nat.le_trans hb1.size hb2.size) _⟩
    have e2 : decide (size < 1) = false := decide_eq_false c2
    by_cases c3 : 64 < size
    · have e3 : decide (64 < size) = true := decide_eq_true c3
      clear hr c0 c1 c2 c3
      go_enter Try.func12, Try.ntmps12
      go_wp2_with fail
      refine (anchor8_any _).mono ?_
      rintro e w1 ⟨rfl, hb1⟩
      go_wp2_with fail
      refine (Hs.out _).mono ?_
      rintro e w2 ⟨rfl, hb2⟩
      go_wp2_with fail
      go_ret
      exact ⟨rfl, (hb1.trans (hb2.mono hb1.size)).alloc (Nat.le_trans hb1.size hb2.size) _⟩
    have e3 : decide (64 < size) = false := decide_eq_false c3
    by_cases c4 : op < 1
    · have e4 : decide (op < 1) = true := decide_eq_true c4
      clear hr c0 c1 c2 c3 c4
      go_enter Try.func12, Try.ntmps12
      go_wp2_with fail
      refine (anchor8_any _).mono ?_
      rintro e w1 ⟨rfl, hb1⟩
      go_wp2_with fail
      refine (Hs.out _).mono ?_
      rintro e w2 ⟨rfl, hb2⟩
      go_wp2_with fail
      go_ret
      exact ⟨rfl, (hb1.trans (hb2.mono hb1.size)).alloc (Nat.le_trans hb1.size hb2.size) _⟩
    have e4 : decide (op < 1) = false := decide_eq_false c4
    by_cases c5 : 64 < op
    · have e5 : decide (64 < op) = true := decide_eq_true c5
      clear hr c0 c1 c2 c3 c4 c5
      go_enter Try.func12, Try.ntmps12
      go_wp2_with fail
      refine (anchor8_any _).mono ?_
      rintro e w1 ⟨rfl, hb1⟩
      go_wp2_with fail
      refine (Hs.out _).mono ?_
      rintro e w2 ⟨rfl, hb2⟩
      go_wp2_with fail
      go_ret
      exact ⟨rfl, (hb1.trans (hb2.mono hb1.size)).alloc (Nat.le_trans hb1.size hb2.size) _⟩
    have e5 : decide (64 < op) = false := decide_eq_false c5
    exact absurd (show 1 ≤ zones ∧ zones ≤ 40 ∧ 1 ≤ size ∧ size ≤ 64 ∧ 1 ≤ op ∧ op ≤ 64 by omega) hr

theorem own : ownKnob Try.prog.godebug = none := by kernel_rfl
theorem laidOut : laidOutB Try.prog = true := by kernel_rfl

set_option maxRecDepth 100000 in
theorem lifted (os : Os) (started : os.Started) (H : Type) (enc : TypeId × Value → H) :
    ReturnsInHanded {} Try.checked os 12 .any (Rows.planPlaysSpec.pre6 enc Try.prog Try.f12 Rows.planPlaysRow.domain false) (Rows.planPlaysSpec.post enc Try.prog Try.f12 false true false false) := by
  refine returnsInHanded_of_change (C := Try.checked) own started (by kernel_rfl) Try.func12
    (ChangeSpec.witness6 (enc := enc) (C := Try.checked) false ⟨#[], #[.int .i64 0, .int .i64 0, .int .i64 0, .slice none 0 0], []⟩ 8 (by kernel_rfl) (by kernel_rfl) (by kernel_rfl) (by kernel_rfl)) ?_
  intro W base args ds gs before hval0 hW hcnd _
  have hval : ∀ (j : Nat) t v, Try.f12.params[j]? = some t → args[j]? = some v → Value.okWide Try.prog W .any base t v := hval0
  have hW' := hW
  obtain ⟨p, q, hA0, hV, rfl, hfz, hnd⟩ := hW
  have hA : DataW.TrodAll enc Try.prog W 0 (fun _ => true) true Try.f12.params.toList args.toList ds p := hA0
  rw [Try.params12] at hA hval
  obtain ⟨v0, v1, v2, v3, d0, d1, d2, d3, p0, p1, p2, p3, rfl, rfl, rfl, h0, h1, h2, h3⟩ := trodAll_four hA
  obtain ⟨rfl, rfl⟩ := trodVars_none hV
  obtain ⟨zones, rfl, rfl, rfl, wa⟩ := open_int Try.underlying3 (hval 0 3 v0 rfl rfl) h0
  obtain ⟨size, rfl, rfl, rfl, wb⟩ := open_int Try.underlying3 (hval 1 3 v1 rfl rfl) h1
  obtain ⟨op, rfl, rfl, rfl, wc⟩ := open_int Try.underlying3 (hval 2 3 v2 rfl rfl) h2
  obtain ⟨a1, len1, cap1, rfl⟩ := okWide_slice Try.underlying58 (hval 3 58 v3 rfl rfl)
  clear hA0 hval0
  have hlt1 : ∀ x ∈ p3, x.block < W.heap.size := fun x hx => hW'.lt x (by simp [hx])
  obtain ⟨hm1, ps1, rfl, hc1⟩ := ops8_came h3 rfl
  refine (any zones size op a1 cap1 ps1 W hc1 hm1).mono fun e W' ⟨he, hb⟩ => ?_
  subst he
  refine ⟨_, rfl, _, _, _, [], [] ++ [] ++ [] ++ p3, [], hW', trodAll_mk1 (shut_bool Try.underlying4 true), ?_, rfl, hb.frame _, fun h => by cases h⟩
  exact trodAll_mk4 (shut_int Try.underlying3 wa) (shut_int Try.underlying3 wb) (shut_int Try.underlying3 wc) (Below.trod laidOut (by kernel_rfl) (of_decide_eq_true (by kernel_rfl)) h3 hb hlt1)

theorem proved : Rows.PlanPlaysSaid :=
  OpenClaim.holds_of_wide 12 Try.f12 rfl rfl rfl rfl rfl rfl rfl ⟨rfl, rfl, rfl, rfl, rfl⟩ rfl rfl rfl rfl rfl (by kernel_rfl) Try.func12 (by kernel_rfl)
    (of_decide_eq_true (by kernel_rfl)) (by unfold Func.isWrapper; first | (rw [if_pos (by decide +kernel)]; kernel_rfl) | (rw [if_neg (by decide +kernel)]; exact ⟨rfl, rfl⟩))
    (fun os started H enc _ => lifted os started H enc)
end Go.Proofs.Ytdinbhanekpjoaa.planPlays
