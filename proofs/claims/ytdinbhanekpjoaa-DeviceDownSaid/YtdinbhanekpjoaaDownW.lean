/-
  The walk of DeviceDown: it answers true, and nothing that was there has turned.
-/
import Derived.Test.YtdinbhanekpjoaaSame7
import Derived.Test.YtdinbhanekpjoaaDown7
import Derived.Test.YtdinbhanekpjoaaLimitW
import Derived.Deep.OwnRows
namespace Go.Proofs.Ytdinbhanekpjoaa
open Go.RowKit

set_option maxRecDepth 100000 in
set_option maxHeartbeats 4000000 in
theorem down_walk (n : Nat) (size op : Int) (A1 : Option Addr) (cap1 : Nat) (os : List OpV) (A2m : Option Addr) (cap2 : Nat) (ms : List OpV) (w : World) (h1 : CameOps w A1 os) (hz1 : 1 ≤ n) (hz2 : n ≤ 40) (hs1 : 1 ≤ size) (hs2 : size ≤ 64) (ho1 : 1 ≤ op) (ho2 : op ≤ 64) (hn1 : os.length ≤ 60) (h2 : CameOps w A2m ms) (hn2 : ms.length ≤ 60) :
    Calls Try.prog 7 #[.int .i64 (n : Int), .int .i64 size, .int .i64 op, .slice A1 os.length cap1, .slice A2m ms.length cap2] w fun e w' => e = .returned (.bool true) ∧ Below w.heap.size w w' := by
  have h1' := hide h1
  have Hr : Hid (∀ w, Calls Try.prog 14 #[.int .i64 (n : Int), .int .i64 size, .int .i64 op] w fun e w' => e = .returned (.bool true) ∧ w = w') := hide (fun w => by
    have := right_any (n : Int) size op w
    rwa [show rightB (n : Int) size op = true by simp [rightB, hs1, hs2, ho1, ho2]; omega] at this)
  have Hnew := hide (fun w => DM.new_any (n : Int) size op w (by omega) (by omega) hs1 hs2 ho1 ho2)
  have Href := hide (fun w => R7.new_any (n : Int) size op w (by omega) (by omega))
  have d1 : decide ((40 : Int) < (n : Int)) = false := decide_eq_false (by omega)
  have d2 : decide (40 < n) = false := decide_eq_false (by omega)
  have d3 : decide (60 < os.length) = false := decide_eq_false (by omega)
  have d4 : decide ((60 : Int) < (os.length : Int)) = false := decide_eq_false (by omega)
  have d5 : decide (60 < ms.length) = false := decide_eq_false (by omega)
  have d6 : decide ((60 : Int) < (ms.length : Int)) = false := decide_eq_false (by omega)
  have Hn2 := hide hn2
  have h2' := hide h2
  clear h2 hn2
  have Hn1 := hide hn1
  have Hz := hide (And.intro hz1 hz2)
  clear h1 hs1 hs2 ho1 ho2 hn1 hz1 hz2
  go_enter Try.func7, Try.ntmps7
  go_wp2_with fail
  refine (anchor7_any _).mono ?_
  rintro e w1 ⟨rfl, hb1⟩
  go_wp2_with fail
  refine (Hr.out _).mono ?_
  rintro e w' ⟨rfl, rfl⟩
  go_wp2_with fail
  refine (Hnew.out _).mono ?_
  rintro e w2 ⟨rfl, hlaid⟩
  have Hlaid := hide hlaid
  have Hb1 := hide hb1
  clear hlaid hb1
  go_wp2_with fail
  refine (Href.out _).mono ?_
  rintro e w3 ⟨A', c', es, rfl, hr3, hb3⟩
  have hrel0 := hide (Rel7.start Hb1.out Hlaid.out hr3 hb3)
  rw [Int.toNat_natCast] at hrel0 ⊢
  have Hok0 := hide (made_ok n size op)
  have hop : Hid ((Dv.made n size op).op = op) := hide rfl
  generalize Dv.made n size op = D0 at hrel0 Hok0 hop ⊢
  clear hr3 hb3 Hlaid Hnew Href Hr
  go_wp2_with fail
  obtain ⟨wI, hwI⟩ : ∃ wI, wI = w3.alloc (.cells #[.slice A' D0.zs.length c', .int .i64 D0.size, .int .i64 D0.op, .int .i64 (D0.n : Int), .bool D0.down] 31) := ⟨_, rfl⟩
  have hrelI : Hid (Rel7 w w3.heap.size w1.heap.size D0 wI) := by rw [hwI]; exact hrel0
  rw [← hwI]
  clear hwI hrel0
  generalize w3.heap.size = gb at hrelI ⊢
  generalize w1.heap.size = d at hrelI ⊢
  go_loopw [59] (fun i wr => ∃ k : Nat, k ≤ os.length ∧ i = .int .i64 k ∧ Rel7 w gb d (playTo D0 os k) wr) (fun i _ => os.length - (intOf i).toNat)
  case atStart => exact ⟨0, Nat.zero_le _, rfl, by rw [playTo_zero]; exact hrelI.out⟩
  case round =>
    obtain ⟨k, hk, rfl, hR⟩ := hrel
    have HR := hide hR
    have Hw := hide hR.world
    obtain ⟨F, A, c, bs, Fs, A2, c2, es2, G, hT, hg, hFg, hGg, hF, hG, hbel, hgw⟩ := hR
    obtain ⟨hOk, hLike⟩ := playTo_ok Hok0.out.1 os k hk
    have hlen : (playTo D0 os k).zs.length = n := hLike.len.trans Hok0.out.2.2
    have Hs := hide (fun h : k < os.length => playTo_succ D0 os k h)
    generalize playTo D0 os k = D at hOk hLike hlen hT hg HR Hs
    have HOk := hide hOk
    have Hlen := hide hlen
    have HT := hide hT
    have Hg := hide hg
    have HF := hide (And.intro hFg (And.intro hGg (And.intro hF (And.intro hG hgw))))
    have Hbel := hide hbel
    clear hOk hLike hlen hT hg hFg hGg hF hG hbel hgw
    by_cases hlt : k < os.length
    · obtain ⟨ab, off, rfl, hab, hck⟩ := (h1'.out.below Hw.out).2 (by omega)
      have Hck := hide (hck k hlt)
      have HZ := hide (Blk.new wr 37 OpV.zero.cells.toArray)
      have hba : Below wr.heap.size wr ((wr.alloc (.cells OpV.zero.cells.toArray 37)).setRow wr.heap.size os[k].cells.toArray) := below_setRow ((Below.refl _ wr).alloc (Nat.le_refl _) _) (Nat.le_refl _) _
      have hko := HZ.out.setRow os[k].cells.toArray
      clear hck
      go_upto_region 12 with (first | ((with_reducible refine wpList_load_mid ?g1 37 (.tmp 61) ?o1 ab (off + k * 68) ?x1 os[k].cells ?d1 ?r1 ?u1 ?f1 ?i1 ?_); (case g1 => exact rfl); (case o1 => exact rfl); (case x1 => exact rfl); (case r1 => exact Hck.out); (case u1 => exact Try.underlying37); (case f1 => exact rfl); (case i1 => exact sizeOp _)) | ((with_reducible refine wpList_store_row ?g2 37 (.tmp 15) (.tmp 62) ?o2 wr.heap.size os[k].cells.toArray ?x2 ?y2 37 OpV.zero.cells.toArray ?k2 ?s2 ?l2 ?a2 ?_); (case g2 => exact rfl); (case o2 => exact rfl); (case x2 => exact rfl); (case y2 => exact rfl); (case k2 => exact HZ.out); (case s2 => exact sizeOpR _); (case l2 => simp [OpV.length]); (case a2 => exact OpV.all _)))
      generalize hWA : World.setRow (World.alloc wr _) _ _ = wa
      have hWA' : (wr.alloc (.cells OpV.zero.cells.toArray 37)).setRow wr.heap.size os[k].cells.toArray = wa := hWA
      rw [hWA'] at hba hko
      clear hWA hWA' HZ Hck
      have HTa := hide (HT.out.below hba)
      have Hba := hide hba
      have KO := hide hko
      have Hbx := hide HT.out.lt
      clear hba hko
      have hga : Blk wa gb 31 (cellsD A2 c2 D) := (Hba.out.block _ Hg.out.lt).trans Hg.out
      obtain ⟨k0, k1, k2, k3, k4, f0, f1, f2, f3, f4⟩ := Blk.five (show Blk wa gb 31 #[.slice A2 D.zs.length c2, .int .i64 D.size, .int .i64 D.op, .int .i64 (D.n : Int), .bool D.down] from hga)
      have hmem : os[k] ∈ os := List.getElem_mem hlt
      have hci := (h1'.out.1 _ hmem)
      have hwa : Below w.heap.size w wa := Hw.out.trans (Hba.out.mono Hw.out.size)
      have hcw : DM.CameInts wa os[k].K os[k].keep := hci.1.mods (Mods.of_below hwa (fun _ => False)) (fun _ _ _ _ h => h)
      have hst := step_any HTa.out HOk.out (by have := Hn1.out; omega) (by have := Hlen.out; have := Hz.out.2; omega) os[k] hcw (fun h0 b off e hf => by
        obtain ⟨b', off', e', hb', _⟩ := hci.1 h0
        rw [e] at e'
        have := HF.out.2.2.1 b hf
        simp only [Option.some.injEq, Addr.mk.injEq] at e'
        omega) hci.2
      have HS := hide hst
      have Hga := hide hga
      clear hga hmem hci hwa hcw hst
      go_wp2_with ((with_reducible refine wpList_load_mid ?g2 37 (.tmp 15) ?o2 wr.heap.size (0) ?x2 os[k].cells ?d2 ?r2 ?u2 ?f2 ?i2 ?_); (case g2 => exact rfl); (case o2 => exact rfl); (case x2 => exact rfl); (case r2 => exact range_op _ KO.out); (case u2 => exact Try.underlying37); (case f2 => exact rfl); (case i2 => exact sizeOp _))
      refine HS.out.mono ?_
      rintro e w5 ⟨A3, c3, es3, rfl, F', Fs', G', hT5, hm5, hF5, hG5⟩
      have Hsk := hide (Hs.out hlt)
      generalize D.play os[k] = D' at hT5 Hsk ⊢
      have hg5 : Blk w5 gb 31 #[.slice A2 D.zs.length c2, .int .i64 D.size, .int .i64 D.op, .int .i64 (D.n : Int), .bool D.down] := Hga.out.mods hm5 HF.out.1
      have hnext := Rel7.next Hbel.out Hba.out hg5 HF.out.1 HF.out.2.1 HF.out.2.2.1 HF.out.2.2.2.1 Hg.out.lt HF.out.2.2.2.2 hT5 hm5 hF5 hG5
      clear k0 k1 k2 k3 k4 f0 f1 f2 f3 f4
      obtain ⟨k0, k1, k2, k3, k4, f0, f1, f2, f3, f4⟩ := hg5.five
      have Hnext := hide hnext
      clear hnext hg5 hT5 hm5 hF5 hG5 HS
      unfold aggD
      go_upto_region 13 with (fail)
      generalize ((((w5.setCell _ _).setCell _ _).setCell _ _).setCell _ _).setCell _ _ = w6 at Hnext ⊢
      clear k0 k1 k2 k3 k4 f0 f1 f2 f3 f4
      have hk60 : os.length ≤ 60 := Hn1.out
      go_wp2_with fail
      go_roundw
      case rel => exact ⟨k + 1, by omega, by go_num, by rw [Hsk.out]; exact Hnext.out⟩
      case measure => simp [intOf]; omega
    · obtain rfl : k = os.length := by omega
      have hcr := DM.crash_any HT.out.dev
      obtain ⟨Dd, hDd⟩ : ∃ Dd : Dv, Dd = { D with down := true } := ⟨_, rfl⟩
      rw [← hDd] at hcr
      have Hcr := hide hcr
      have Hokd : Hid (Dd.Ok (0 + os.length)) := hide (by rw [hDd]; exact ⟨HOk.out.n, HOk.out.zs⟩)
      have Hlend : Hid (Dd.zs.length = n) := hide (by rw [hDd]; exact Hlen.out)
      have Hdn : Hid (Dd.down = true) := hide (by rw [hDd])
      have HDd := hide hDd
      clear Hs HR hlt hk hcr hDd
      go_wp2_with fail
      refine Hcr.out.mono ?_
      rintro e wc ⟨rfl, hdc⟩
      rw [HDd.out] at hdc
      obtain ⟨hgc, hrc⟩ := Rel7.crashed HT.out Hg.out HF.out.1 HF.out.2.1 HF.out.2.2.1 HF.out.2.2.2.1 Hbel.out HF.out.2.2.2.2 hdc
      rw [← HDd.out] at hrc
      have Hrc := hide hrc
      obtain ⟨k0, k1, k2, k3, k4, f0, f1, f2, f3, f4⟩ := Blk.five (show Blk wc gb 31 #[.slice A2 D.zs.length c2, .int .i64 D.size, .int .i64 D.op, .int .i64 (D.n : Int), .bool D.down] from hgc)
      clear hdc hrc hgc Hcr HT Hg HF Hbel HOk Hlen HDd
      go_upto_region 16 with (fail)
      generalize wc.setCell _ _ = wd at Hrc ⊢
      clear k0 k1 k2 k3 k4 f0 f1 f2 f3 f4
      go_wp2_with fail
      go_loopw [76] (fun i wr => ∃ k : Nat, k ≤ ms.length ∧ i = .int .i64 k ∧ Rel7 w gb d Dd wr) (fun i _ => ms.length - (intOf i).toNat)
      case atStart => exact ⟨0, Nat.zero_le _, rfl, Hrc.out⟩
      case round =>
        obtain ⟨k, hk, rfl, hR⟩ := hrel
        have HR := hide hR
        have Hw2 := hide hR.world
        have hk60 : ms.length ≤ 60 := Hn2.out
        clear hR
        by_cases hlt : k < ms.length
        · obtain ⟨ab, off, rfl, hab, hck⟩ := (h2'.out.below Hw2.out).2 (by omega)
          have Hck := hide (hck k hlt)
          have HZ := hide (Blk.new wr 37 OpV.zero.cells.toArray)
          have hba : Below wr.heap.size wr ((wr.alloc (.cells OpV.zero.cells.toArray 37)).setRow wr.heap.size ms[k].cells.toArray) := below_setRow ((Below.refl _ wr).alloc (Nat.le_refl _) _) (Nat.le_refl _) _
          have hko := HZ.out.setRow ms[k].cells.toArray
          have hra := HR.out.below hba
          clear hck hba
          go_upto_region 19 with (first | ((with_reducible refine wpList_load_mid ?g11 37 (.tmp 78) ?o11 ab (off + k * 68) ?x11 ms[k].cells ?d11 ?r11 ?u11 ?f11 ?i11 ?_); (case g11 => exact rfl); (case o11 => exact rfl); (case x11 => exact rfl); (case r11 => exact Hck.out); (case u11 => exact Try.underlying37); (case f11 => exact rfl); (case i11 => exact sizeOp _)) | ((with_reducible refine wpList_store_row ?g12 37 (.tmp 17) (.tmp 79) ?o12 wr.heap.size ms[k].cells.toArray ?x12 ?y12 37 OpV.zero.cells.toArray ?k12 ?s12 ?l12 ?a12 ?_); (case g12 => exact rfl); (case o12 => exact rfl); (case x12 => exact rfl); (case y12 => exact rfl); (case k12 => exact HZ.out); (case s12 => exact sizeOpR _); (case l12 => simp [OpV.length]); (case a12 => exact OpV.all _)))
          generalize hWA : World.setRow (World.alloc wr _) _ _ = wa
          have hWA' : (wr.alloc (.cells OpV.zero.cells.toArray 37)).setRow wr.heap.size ms[k].cells.toArray = wa := hWA
          rw [hWA'] at hra hko
          clear hWA hWA' HZ Hck
          obtain ⟨o0, o1, o2, o67, or_⟩ := OpV.at_ hko
          have Or := hide or_
          have HRa := hide hra
          obtain ⟨F, A, c, bs, Fs, A', c', es, G, hT1, hg1, a1, a2, a3, a4, a5, a6⟩ := hra
          have hT := hT1.dev
          have HT1 := hide hT1
          have HX := hide (And.intro hg1 (And.intro a1 (And.intro a2 (And.intro a3 (And.intro a4 (And.intro a5 a6))))))
          clear or_ hko hT1 hg1 a1 a2 a3 a4 a5 a6
          by_cases hk1 : ms[k].kind = 1
          · have e1 : (ms[k].kind == 1) = true := beq_iff_eq.2 hk1
            have hap := DM.append_any hT (by have := Hokd.out.n; have := Hn1.out; omega) (by have := Hlend.out; have := Hz.out.2; omega) (fun x hx => by have := (Hokd.out.zs x hx).1; have := Hn1.out; omega) ms[k].zone ms[k].s
            rw [Dv.append_down Hdn.out] at hap
            unfold Sec.agg at hap
            have Hap := hide hap
            clear hap hT hk1
            go_wp2_with ((with_reducible refine wpList_load_mid ?g13 34 (.tmp 88) ?o13 wr.heap.size (3) ?x13 ms[k].s.cs ?d13 ?r13 ?u13 ?f13 ?i13 ?_); (case g13 => exact rfl); (case o13 => exact rfl); (case x13 => exact rfl); (case r13 => exact Or.out); (case u13 => exact Try.underlying34); (case f13 => exact rfl); (case i13 => exact ZD.sizeSec _))
            refine Hap.out.mono ?_
            rintro e w5 ⟨rfl, hd5⟩
            have Hrel := hide (Rel7.devDid HT1.out HX.out.1 HX.out.2.1 HX.out.2.2.1 HX.out.2.2.2.1 HX.out.2.2.2.2.1 HX.out.2.2.2.2.2.1 HX.out.2.2.2.2.2.2 hd5)
            clear hd5 Hap
            go_wp2_with fail
            go_roundw
            case rel => exact ⟨k + 1, by omega, by go_num, Hrel.out⟩
            case measure => simp [intOf]; omega
          · by_cases hk2 : ms[k].kind = 2
            · have e1 : (ms[k].kind == 1) = false := beq_eq_false_iff_ne.2 hk1
              have e2 : (ms[k].kind == 2) = true := beq_iff_eq.2 hk2
              have hap := DM.read_any hT (by have := Hokd.out.n; have := Hn1.out; omega) (fun x hx => by have := (Hokd.out.zs x hx).1; have := Hn1.out; omega) ms[k].zone ms[k].off
              rw [Dv.read_down Hdn.out] at hap
              unfold Sec.agg at hap
              have Hap := hide hap
              clear hap hT hk1 hk2
              go_wp2_with fail
              refine Hap.out.mono ?_
              rintro e w5 ⟨rfl, hd5⟩
              have Hrel := hide (Rel7.devDid HT1.out HX.out.1 HX.out.2.1 HX.out.2.2.1 HX.out.2.2.2.1 HX.out.2.2.2.2.1 HX.out.2.2.2.2.2.1 HX.out.2.2.2.2.2.2 hd5)
              clear hd5 Hap
              go_wp2_with fail
              go_roundw
              case rel => exact ⟨k + 1, by omega, by go_num, Hrel.out⟩
              case measure => simp [intOf]; omega
            · by_cases hk3 : ms[k].kind = 3
              · have e1 : (ms[k].kind == 1) = false := beq_eq_false_iff_ne.2 hk1
                have e2 : (ms[k].kind == 2) = false := beq_eq_false_iff_ne.2 hk2
                have e3 : (ms[k].kind == 3) = true := beq_iff_eq.2 hk3
                have hap := DM.reset_any hT (by have := Hokd.out.n; have := Hn1.out; omega) ms[k].zone
                rw [Dv.reset_down Hdn.out] at hap
                skip
                have Hap := hide hap
                clear hap hT hk1 hk2 hk3
                go_wp2_with fail
                refine Hap.out.mono ?_
                rintro e w5 ⟨rfl, hd5⟩
                have Hrel := hide (Rel7.devDid HT1.out HX.out.1 HX.out.2.1 HX.out.2.2.1 HX.out.2.2.2.1 HX.out.2.2.2.2.1 HX.out.2.2.2.2.2.1 HX.out.2.2.2.2.2.2 hd5)
                clear hd5 Hap
                go_wp2_with fail
                go_roundw
                case rel => exact ⟨k + 1, by omega, by go_num, Hrel.out⟩
                case measure => simp [intOf]; omega
              · by_cases hk4 : ms[k].kind = 4
                · have e1 : (ms[k].kind == 1) = false := beq_eq_false_iff_ne.2 hk1
                  have e2 : (ms[k].kind == 2) = false := beq_eq_false_iff_ne.2 hk2
                  have e3 : (ms[k].kind == 3) = false := beq_eq_false_iff_ne.2 hk3
                  have e4 : (ms[k].kind == 4) = true := beq_iff_eq.2 hk4
                  have hap := DM.finish_any hT (by have := Hokd.out.n; have := Hn1.out; omega) ms[k].zone
                  rw [Dv.finish_down Hdn.out] at hap
                  skip
                  have Hap := hide hap
                  clear hap hT hk1 hk2 hk3 hk4
                  go_wp2_with fail
                  refine Hap.out.mono ?_
                  rintro e w5 ⟨rfl, hd5⟩
                  have Hrel := hide (Rel7.devDid HT1.out HX.out.1 HX.out.2.1 HX.out.2.2.1 HX.out.2.2.2.1 HX.out.2.2.2.2.1 HX.out.2.2.2.2.2.1 HX.out.2.2.2.2.2.2 hd5)
                  clear hd5 Hap
                  go_wp2_with fail
                  go_roundw
                  case rel => exact ⟨k + 1, by omega, by go_num, Hrel.out⟩
                  case measure => simp [intOf]; omega
                · by_cases hk5 : ms[k].kind = 5
                  · have e1 : (ms[k].kind == 1) = false := beq_eq_false_iff_ne.2 hk1
                    have e2 : (ms[k].kind == 2) = false := beq_eq_false_iff_ne.2 hk2
                    have e3 : (ms[k].kind == 3) = false := beq_eq_false_iff_ne.2 hk3
                    have e4 : (ms[k].kind == 4) = false := beq_eq_false_iff_ne.2 hk4
                    have e5 : (ms[k].kind == 5) = true := beq_iff_eq.2 hk5
                    have hap := DM.flush_any hT (by have := Hokd.out.n; have := Hn1.out; omega) (by have := Hlend.out; have := Hz.out.2; omega)
                    rw [Dv.flush_down Hdn.out] at hap
                    skip
                    have Hap := hide hap
                    clear hap hT hk1 hk2 hk3 hk4 hk5
                    go_wp2_with fail
                    refine Hap.out.mono ?_
                    rintro e w5 ⟨rfl, hd5⟩
                    have Hrel := hide (Rel7.devDid HT1.out HX.out.1 HX.out.2.1 HX.out.2.2.1 HX.out.2.2.2.1 HX.out.2.2.2.2.1 HX.out.2.2.2.2.2.1 HX.out.2.2.2.2.2.2 hd5)
                    clear hd5 Hap
                    go_wp2_with fail
                    go_roundw
                    case rel => exact ⟨k + 1, by omega, by go_num, Hrel.out⟩
                    case measure => simp [intOf]; omega
                  · have e1 : (ms[k].kind == 1) = false := beq_eq_false_iff_ne.2 hk1
                    have e2 : (ms[k].kind == 2) = false := beq_eq_false_iff_ne.2 hk2
                    have e3 : (ms[k].kind == 3) = false := beq_eq_false_iff_ne.2 hk3
                    have e4 : (ms[k].kind == 4) = false := beq_eq_false_iff_ne.2 hk4
                    have e5 : (ms[k].kind == 5) = false := beq_eq_false_iff_ne.2 hk5
                    clear hT hk1 hk2 hk3 hk4 hk5
                    go_wp2_with fail
                    go_roundw
                    case rel => exact ⟨k + 1, by omega, by go_num, HRa.out⟩
                    case measure => simp [intOf]; omega
        · obtain rfl : k = ms.length := by omega
          obtain ⟨F6, A6, c6, bs6, Fs6, A7, c7, es7, G6, hT6, hg6, hrest⟩ := HR.out
          obtain ⟨k0, k1, k2, k3, k4, f0, f1, f2, f3, f4⟩ := Blk.five (show Blk wr gb 31 #[.slice A7 Dd.zs.length c7, .int .i64 Dd.size, .int .i64 Dd.op, .int .i64 (Dd.n : Int), .bool Dd.down] from hg6)
          have Hsame := hide (same7_any hT6 (by have := Hz.out.2; have := Hlend.out; omega) (fun x hx => by have := (Hokd.out.zs x hx).1; have := Hn1.out; omega))
          clear hT6 hg6 hrest
          go_wp2_with fail
          refine Hsame.out.mono ?_
          rintro e w7 ⟨rfl, hb7⟩
          have Hn7 := hide (HR.out.below hb7).world
          clear hb7 Hsame k0 k1 k2 k3 k4 f0 f1 f2 f3 f4
          go_wp2_with fail
          go_ret
          exact ⟨rfl, Hn7.out⟩
end Go.Proofs.Ytdinbhanekpjoaa
