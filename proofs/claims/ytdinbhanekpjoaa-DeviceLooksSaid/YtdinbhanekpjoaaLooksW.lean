/-
  The walk of DeviceLooks: it answers true, and nothing that was there has turned.
-/
import Derived.Test.YtdinbhanekpjoaaLook7
import Derived.Test.YtdinbhanekpjoaaSectors
import Derived.Test.YtdinbhanekpjoaaLimitW
import Derived.Deep.OwnRows
import Derived.Deep.QuietTactic
import Derived.BigQuiet
namespace Go.Proofs.Ytdinbhanekpjoaa
open Go.RowKit

set_option maxRecDepth 100000 in
set_option maxHeartbeats 4000000 in
theorem looks_walk (n : Nat) (size op : Int) (A1 : Option Addr) (cap1 : Nat) (os : List OpV) (p : Sec) (wS : World) (h1 : CameOps wS A1 os) (hz1 : 1 ≤ n) (hz2 : n ≤ 40) (hs1 : 1 ≤ size) (hs2 : size ≤ 64) (ho1 : 1 ≤ op) (ho2 : op ≤ 64) (hn1 : os.length ≤ 60) :
    Calls Try.prog 5 #[.int .i64 (n : Int), .int .i64 size, .int .i64 op, .slice A1 os.length cap1, p.agg] wS fun e w' => e = .returned (.bool true) ∧ Below wS.heap.size wS w' := by
  unfold Sec.agg
  have h0' := hide h1
  have Hr : Hid (∀ w, Calls Try.prog 14 #[.int .i64 (n : Int), .int .i64 size, .int .i64 op] w fun e w' => e = .returned (.bool true) ∧ w = w') := hide (fun w => by
    have := right_any (n : Int) size op w
    rwa [show rightB (n : Int) size op = true by simp [rightB, hs1, hs2, ho1, ho2]; omega] at this)
  have Hnew := hide (fun w => DM.new_any (n : Int) size op w (by omega) (by omega) hs1 hs2 ho1 ho2)
  have Href := hide (fun w => R7.new_any (n : Int) size op w (by omega) (by omega))
  have d1 : decide ((40 : Int) < (n : Int)) = false := decide_eq_false (by omega)
  have d2 : decide (40 < n) = false := decide_eq_false (by omega)
  have d3 : decide (60 < os.length) = false := decide_eq_false (by omega)
  have d4 : decide ((60 : Int) < (os.length : Int)) = false := decide_eq_false (by omega)
  have Hn1 := hide hn1
  have Hz := hide (And.intro hz1 hz2)
  clear h1 hs1 hs2 ho1 ho2 hn1 hz1 hz2
  go_enter Try.func5, Try.ntmps5
  go_upto_region 1 with (fail)
  have hbS : Below wS.heap.size wS (wS.alloc (.cells p.cs.toArray 34)) := (Below.refl _ wS).alloc (Nat.le_refl _) _
  have kp := Blk.new wS 34 p.cs.toArray
  have hgp : wS.heap.size < (wS.alloc (.cells p.cs.toArray 34)).heap.size := by simp
  generalize wS.alloc (.cells p.cs.toArray 34) = w at hbS kp hgp ⊢
  have h1' := hide (h0'.out.below hbS)
  have HbS := hide hbS
  have Kp := hide kp
  have Hgp := hide hgp
  clear hbS kp hgp h0'
  generalize wS.heap.size = gp at Kp Hgp ⊢
  go_wp2_with fail
  refine (anchor7_any _).mono ?_
  rintro e w1 ⟨rfl, hb1⟩
  go_wp2_with fail
  refine (Hr.out _).mono ?_
  rintro e w' ⟨rfl, rfl⟩
  go_wp2_with fail
  refine (Hnew.out _).mono ?_
  rintro e w2 ⟨rfl, hlaid⟩
  have Hlaid := hide hlaid
  have Hb1 := hide hb1
  clear hlaid hb1
  go_wp2_with fail
  refine (Href.out _).mono ?_
  rintro e w3 ⟨A', c', es, rfl, hr3, hb3⟩
  have hrel0 := hide (Rel7.start Hb1.out Hlaid.out hr3 hb3)
  rw [Int.toNat_natCast] at hrel0 ⊢
  have Hok0 := hide (made_ok n size op)
  have hop : Hid ((Dv.made n size op).op = op) := hide rfl
  generalize Dv.made n size op = D0 at hrel0 Hok0 hop ⊢
  clear hr3 hb3 Hlaid Hnew Href Hr
  go_wp2_with fail
  obtain ⟨wI, hwI⟩ : ∃ wI, wI = w3.alloc (.cells #[.slice A' D0.zs.length c', .int .i64 D0.size, .int .i64 D0.op, .int .i64 (D0.n : Int), .bool D0.down] 31) := ⟨_, rfl⟩
  have hrelI : Hid (Rel7 w w3.heap.size w1.heap.size D0 wI) := by rw [hwI]; exact hrel0
  rw [← hwI]
  clear hwI hrel0
  generalize w3.heap.size = gb at hrelI ⊢
  generalize w1.heap.size = d at hrelI ⊢
  go_loopw [58] (fun i wr => ∃ k : Nat, k ≤ os.length ∧ i = .int .i64 k ∧ Rel7 w gb d (playTo D0 os k) wr) (fun i _ => os.length - (intOf i).toNat)
  case atStart => exact ⟨0, Nat.zero_le _, rfl, by rw [playTo_zero]; exact hrelI.out⟩
  case round =>
    obtain ⟨k, hk, rfl, hR⟩ := hrel
    have HR := hide hR
    have Hw := hide hR.world
    obtain ⟨F, A, c, bs, Fs, A2, c2, es2, G, hT, hg, hFg, hGg, hF, hG, hbel, hgw⟩ := hR
    obtain ⟨hOk, hLike⟩ := playTo_ok Hok0.out.1 os k hk
    have hlen : (playTo D0 os k).zs.length = n := hLike.len.trans Hok0.out.2.2
    have Hs := hide (fun h : k < os.length => playTo_succ D0 os k h)
    generalize playTo D0 os k = D at hOk hLike hlen hT hg HR Hs
    have HOk := hide hOk
    have Hlen := hide hlen
    have HT := hide hT
    have Hg := hide hg
    have HF := hide (And.intro hFg (And.intro hGg (And.intro hF (And.intro hG hgw))))
    have Hbel := hide hbel
    clear hOk hLike hlen hT hg hFg hGg hF hG hbel hgw
    by_cases hlt : k < os.length
    · obtain ⟨ab, off, rfl, hab, hck⟩ := (h1'.out.below Hw.out).2 (by omega)
      have Hck := hide (hck k hlt)
      have HZ := hide (Blk.new wr 37 OpV.zero.cells.toArray)
      have hba : Below wr.heap.size wr ((wr.alloc (.cells OpV.zero.cells.toArray 37)).setRow wr.heap.size os[k].cells.toArray) := below_setRow ((Below.refl _ wr).alloc (Nat.le_refl _) _) (Nat.le_refl _) _
      have hko := HZ.out.setRow os[k].cells.toArray
      clear hck
      go_upto_region 12 with (first | ((with_reducible refine wpList_load_mid ?g1 37 (.tmp 60) ?o1 ab (off + k * 68) ?x1 os[k].cells ?d1 ?r1 ?u1 ?f1 ?i1 ?_); (case g1 => exact rfl); (case o1 => exact rfl); (case x1 => exact rfl); (case r1 => exact Hck.out); (case u1 => exact Try.underlying37); (case f1 => exact rfl); (case i1 => exact sizeOp _)) | ((with_reducible refine wpList_store_row ?g2 37 (.tmp 15) (.tmp 61) ?o2 wr.heap.size os[k].cells.toArray ?x2 ?y2 37 OpV.zero.cells.toArray ?k2 ?s2 ?l2 ?a2 ?_); (case g2 => exact rfl); (case o2 => exact rfl); (case x2 => exact rfl); (case y2 => exact rfl); (case k2 => exact HZ.out); (case s2 => exact sizeOpR _); (case l2 => simp [OpV.length]); (case a2 => exact OpV.all _)))
      generalize hWA : World.setRow (World.alloc wr _) _ _ = wa
      have hWA' : (wr.alloc (.cells OpV.zero.cells.toArray 37)).setRow wr.heap.size os[k].cells.toArray = wa := hWA
      rw [hWA'] at hba hko
      clear hWA hWA' HZ Hck
      have HTa := hide (HT.out.below hba)
      have Hba := hide hba
      have KO := hide hko
      have Hbx := hide HT.out.lt
      clear hba hko
      have hga : Blk wa gb 31 (cellsD A2 c2 D) := (Hba.out.block _ Hg.out.lt).trans Hg.out
      obtain ⟨k0, k1, k2, k3, k4, f0, f1, f2, f3, f4⟩ := Blk.five (show Blk wa gb 31 #[.slice A2 D.zs.length c2, .int .i64 D.size, .int .i64 D.op, .int .i64 (D.n : Int), .bool D.down] from hga)
      have hmem : os[k] ∈ os := List.getElem_mem hlt
      have hci := (h1'.out.1 _ hmem)
      have hwa : Below w.heap.size w wa := Hw.out.trans (Hba.out.mono Hw.out.size)
      have hcw : DM.CameInts wa os[k].K os[k].keep := hci.1.mods (Mods.of_below hwa (fun _ => False)) (fun _ _ _ _ h => h)
      have hst := step_any HTa.out HOk.out (by have := Hn1.out; omega) (by have := Hlen.out; have := Hz.out.2; omega) os[k] hcw (fun h0 b off e hf => by
        obtain ⟨b', off', e', hb', _⟩ := hci.1 h0
        rw [e] at e'
        have := HF.out.2.2.1 b hf
        simp only [Option.some.injEq, Addr.mk.injEq] at e'
        omega) hci.2
      have HS := hide hst
      have Hga := hide hga
      clear hga hmem hci hwa hcw hst
      go_wp2_with ((with_reducible refine wpList_load_mid ?g2 37 (.tmp 15) ?o2 wr.heap.size (0) ?x2 os[k].cells ?d2 ?r2 ?u2 ?f2 ?i2 ?_); (case g2 => exact rfl); (case o2 => exact rfl); (case x2 => exact rfl); (case r2 => exact range_op _ KO.out); (case u2 => exact Try.underlying37); (case f2 => exact rfl); (case i2 => exact sizeOp _))
      refine HS.out.mono ?_
      rintro e w5 ⟨A3, c3, es3, rfl, F', Fs', G', hT5, hm5, hF5, hG5⟩
      have Hsk := hide (Hs.out hlt)
      generalize D.play os[k] = D' at hT5 Hsk ⊢
      have hg5 : Blk w5 gb 31 #[.slice A2 D.zs.length c2, .int .i64 D.size, .int .i64 D.op, .int .i64 (D.n : Int), .bool D.down] := Hga.out.mods hm5 HF.out.1
      have hnext := Rel7.next Hbel.out Hba.out hg5 HF.out.1 HF.out.2.1 HF.out.2.2.1 HF.out.2.2.2.1 Hg.out.lt HF.out.2.2.2.2 hT5 hm5 hF5 hG5
      clear k0 k1 k2 k3 k4 f0 f1 f2 f3 f4
      obtain ⟨k0, k1, k2, k3, k4, f0, f1, f2, f3, f4⟩ := hg5.five
      have Hnext := hide hnext
      clear hnext hg5 hT5 hm5 hF5 hG5 HS
      unfold aggD
      go_upto_region 13 with (fail)
      generalize ((((w5.setCell _ _).setCell _ _).setCell _ _).setCell _ _).setCell _ _ = w6 at Hnext ⊢
      clear k0 k1 k2 k3 k4 f0 f1 f2 f3 f4
      have hk60 : os.length ≤ 60 := Hn1.out
      go_wp2_with fail
      go_roundw
      case rel => exact ⟨k + 1, by omega, by go_num, by rw [Hsk.out]; exact Hnext.out⟩
      case measure => simp [intOf]; omega
    · obtain rfl : k = os.length := by omega
      have hdn := DM.down_any HT.out.dev
      have Hdn := hide hdn
      have Hlooks : ¬ D.down = true → LooksOk n 60 D := fun h => ⟨Hlen.out, by simpa using h, by have := HOk.out.n; have := Hn1.out; omega, fun x hx => by have := (HOk.out.zs x hx).1; have := Hn1.out; omega⟩
      clear Hs HR hlt hk hdn
      by_cases hdd : D.down = true
      · rw [hdd] at Hdn
        have HbS2 := hide (HbS.out.trans (Hw.out.mono HbS.out.size))
        clear hdd Hlooks
        go_wp2_with fail
        refine Hdn.out.mono ?_
        rintro e w' ⟨rfl, rfl⟩
        go_wp2_with fail
        go_ret
        exact ⟨rfl, HbS2.out⟩
      · have hlk := Hlooks hdd
        rw [hlk.down] at Hdn
        have H0 : Hid (∃ D F Fs, DevIs wr d D F A c bs Fs ∧ (∀ b, F b → w.heap.size ≤ b) ∧ LooksOk n (60 + 60 * 0) D ∧ Below w.heap.size w wr) := hide ⟨D, F, Fs, HT.out.dev, HF.out.2.2.1, hlk, Hw.out⟩
        clear hdd Hlooks hlk HT Hg HF Hbel HOk
        go_wp2_with fail
        refine Hdn.out.mono ?_
        rintro e w' ⟨rfl, rfl⟩
        go_wp2_with fail
        go_loopw [73] (fun i wr => ∃ j : Nat, j ≤ n ∧ i = .int .i64 j ∧ ∃ D F Fs, DevIs wr d D F A c bs Fs ∧ (∀ b, F b → w.heap.size ≤ b) ∧ LooksOk n (60 + 60 * j) D ∧ Below w.heap.size w wr) (fun i _ => n - (intOf i).toNat)
        case atStart => exact ⟨0, by omega, rfl, H0.out⟩
        case round =>
          obtain ⟨j, hj, rfl, D1, F1, Fs1, hd1, hF1, hlo, hb1⟩ := hrel
          by_cases hjn : j < n
          · have hj1 : j < D1.zs.length := by have := hlo.len; omega
            have Hsec := hide (sectors_any hd1 j hj1 (by have := hlo.short _ (List.getElem_mem hj1); omega))
            have Hen := hide (hlo.enter hj1)
            have HL0 : Hid (D1.zs[j].L.length ≤ 60) := hide (hlo.short _ (List.getElem_mem hj1))
            generalize D1.zs[j].L = L0 at Hsec Hen HL0
            generalize D1.zs[j].state = st at Hen
            have Hd1 := hide hd1
            have HF1 := hide hF1
            have Hb1 := hide hb1
            clear hd1 hF1 hlo hb1 hj1
            go_wp2_with fail
            refine Hsec.out.mono ?_
            rintro e w5 ⟨A5, rc, rfl, hrow, hro, hb5⟩
            have H0 : Hid (∃ D2 F2 Fs2, DevIs w5 d D2 F2 A c bs Fs2 ∧ (∀ b, F2 b → w.heap.size ≤ b ∧ ∀ g, A5 = some ⟨g, 0, none⟩ → b ≠ g) ∧ LookOk n (60 + 60 * j) j L0 st 0 D2 ∧ w5.ownsRow 0 34 64 (.slice A5 L0.length rc) L0.length (L0.flatMap Sec.cs) ∧ Below w.heap.size w w5) := hide
              ⟨D1, F1, Fs1, Hd1.out.below hb5, fun b hb => ⟨HF1.out b hb, fun g e1 e2 => by have := Hd1.out.lt b hb; have := hro g (by rw [e1]; rfl); omega⟩, Hen.out, hrow, Hb1.out.trans (hb5.mono Hb1.out.size)⟩
            clear hrow hro hb5 Hsec
            go_wp2_with fail
            go_loopw [80] (fun i wq => ∃ k : Nat, k ≤ L0.length ∧ i = .int .i64 k ∧ ∃ D2 F2 Fs2, DevIs wq d D2 F2 A c bs Fs2 ∧ (∀ b, F2 b → w.heap.size ≤ b ∧ ∀ g, A5 = some ⟨g, 0, none⟩ → b ≠ g) ∧ LookOk n (60 + 60 * j) j L0 st k D2 ∧ wq.ownsRow 0 34 64 (.slice A5 L0.length rc) L0.length (L0.flatMap Sec.cs) ∧ Below w.heap.size w wq) (fun i _ => L0.length - (intOf i).toNat)
            case atStart => exact ⟨0, Nat.zero_le _, rfl, H0.out⟩
            case round =>
              obtain ⟨k, hk, rfl, D2, F2, Fs2, hd2, hF2, hlk, hrow, hbq⟩ := hrel
              have hL60 := HL0.out
              by_cases hltk : k < L0.length
              · obtain ⟨D3, hst⟩ := hlk.step p hjn hltk
                obtain ⟨g, rfl, hlc, hgl, hrg⟩ := R7.own_range hrow rfl k hltk
                have Hrg := hide hrg
                have HZ := hide (Blk.new wr 34 Sec.zero.cs.toArray)
                have hba : Below wr.heap.size wr ((wr.alloc (.cells Sec.zero.cs.toArray 34)).setRow wr.heap.size L0[k].cs.toArray) := below_setRow ((Below.refl _ wr).alloc (Nat.le_refl _) _) (Nat.le_refl _) _
                have hks := HZ.out.setRow L0[k].cs.toArray
                have Hrow := hide hrow
                have Hbq := hide hbq
                have Hlk := hide hlk
                have Hst := hide hst
                have Hd2 := hide hd2
                have HF2 : Hid (∀ b, F2 b → And (w.heap.size ≤ b) (b ≠ g)) := hide (fun b hb => ⟨(hF2 b hb).1, (hF2 b hb).2 g rfl⟩)
                clear hrg hrow hbq hlk hst hd2 hF2
                go_upto_region 22 with (first | ((with_reducible refine wpList_load_mid ?g21 34 (.tmp 83) ?o21 g (k * 64) ?x21 L0[k].cs ?d21 ?r21 ?u21 ?f21 ?i21 ?_); (case g21 => exact rfl); (case o21 => exact rfl); (case x21 => exact rfl); (case r21 => exact Hrg.out); (case u21 => exact Try.underlying34); (case f21 => exact rfl); (case i21 => exact ZD.sizeSec _)) | ((with_reducible refine wpList_store_row ?g22 34 (.tmp 18) (.tmp 84) ?o22 wr.heap.size L0[k].cs.toArray ?x22 ?y22 34 Sec.zero.cs.toArray ?k22 ?s22 ?l22 ?a22 ?_); (case g22 => exact rfl); (case o22 => exact rfl); (case x22 => exact rfl); (case y22 => exact rfl); (case k22 => exact HZ.out); (case s22 => exact ZD.sizeRow _); (case l22 => simp [Sec.len]); (case a22 => exact sec_all _)))
                generalize hWA : World.setRow (World.alloc wr _) _ _ = wa
                have hWA' : (wr.alloc (.cells Sec.zero.cs.toArray 34)).setRow wr.heap.size L0[k].cs.toArray = wa := hWA
                rw [hWA'] at hba hks
                clear hWA hWA' HZ Hrg
                have hda := Hd2.out.below hba
                have Hcnt := hide (DM.count_any hda)
                have hs2 := DM.spoil_any hda (fun x hx => by have := Hlk.out.short x hx; omega) (j : Int) (k : Int) p
                rw [Hst.out.spoil] at hs2
                unfold Sec.agg at hs2
                have Hsp := hide hs2
                have Hba := hide hba
                have Ks := hide hks
                have KsLt := hide hks.lt
                have hkp : Blk wa gp 34 p.cs.toArray := (Hba.out.block _ (by have := Hgp.out; have := Hbq.out.size; omega)).trans ((Hbq.out.block _ Hgp.out).trans Kp.out)
                have Kpa := hide hkp
                have Hrp := hide (ZD.range_blk _ hkp)
                clear hba hks hda hs2 hkp
                go_wp2_with fail
                refine Hcnt.out.mono ?_
                rintro e w' ⟨rfl, rfl⟩
                go_wp2_with ((with_reducible refine wpList_load_mid ?g23 34 (.tmp 9) ?o23 gp (0) ?x23 p.cs ?d23 ?r23 ?u23 ?f23 ?i23 ?_); (case g23 => exact rfl); (case o23 => exact rfl); (case x23 => exact rfl); (case r23 => exact Hrp.out); (case u23 => exact Try.underlying34); (case f23 => exact rfl); (case i23 => exact ZD.sizeSec _))
                refine Hsp.out.mono ?_
                rintro e wb ⟨rfl, hdb⟩
                have hn3 := Hst.out.n1
                have kpb := DDid.box Kpa.out hdb (fun hf => by have := (HF2.out _ hf).1; have := Hgp.out; omega)
                have ksb := DDid.box Ks.out hdb (fun hf => by have := Hd2.out.lt _ hf; omega)
                obtain ⟨F3, Fs3, hd3, hm3, hF3⟩ := hdb
                have Hcnt2 := hide (DM.count_any hd3)
                rw [hn3] at Hcnt2
                have hrd := DM.read_any hd3 (by rw [hn3]; have := Hlk.out.cnt; have := Hn1.out; have := Hz.out.2; omega) (fun x hx => by have := Hst.out.short1 x hx; omega) (j : Int) (k : Int)
                have Kpb := hide kpb
                have Ksb := hide ksb
                have Hrd := hide hrd
                have Hm3 := hide hm3
                have HF3 := hide hF3
                clear kpb ksb hd3 hm3 hF3 hrd Hsp Hcnt Kpa Ks Hrp hn3
                go_wp2_with fail
                refine Hcnt2.out.mono ?_
                rintro e w' ⟨rfl, rfl⟩
                have Hcnt3 : Hid (Hid True) := hide (hide trivial)
                clear Hcnt3
                have Ksw : Hid (wr.heap.size < wa.heap.size) := hide KsLt.out
                by_cases hs4 : st = 4
                · have hrd := Hrd.out
                  rw [Hst.out.off hs4] at hrd
                  unfold Sec.agg at hrd
                  have Hrd2 := hide hrd
                  clear hrd Hrd
                  go_wp2_with fail
                  refine Hrd2.out.mono ?_
                  rintro e wc ⟨rfl, hdc⟩
                  have kpc := DDid.box Kpb.out hdc (fun hf => by rcases HF3.out _ hf with h | h; · have := (HF2.out _ h).1; have := Hgp.out; omega
                                                                 · have := Hgp.out; have := Hbq.out.size; have := Hba.out.size; omega)
                  have ksc := DDid.box Ksb.out hdc (fun hf => by rcases HF3.out _ hf with h | h; · have := Hd2.out.lt _ h; omega
                                                                 · have := Ksw.out; omega)
                  obtain ⟨F4, Fs4, hd4, hm4, hF4⟩ := hdc
                  have HZ := hide (Blk.new wc 34 Sec.zero.cs.toArray)
                  have hbd : Below wc.heap.size wc ((wc.alloc (.cells Sec.zero.cs.toArray 34)).setRow wc.heap.size Sec.zero.cs.toArray) := below_setRow ((Below.refl _ wc).alloc (Nat.le_refl _) _) (Nat.le_refl _) _
                  have kt := HZ.out.setRow Sec.zero.cs.toArray
                  have Kpc := hide kpc
                  have Ksc := hide ksc
                  have Hd4 := hide hd4
                  have Hm4 := hide hm4
                  have HF4 := hide hF4
                  clear kpc ksc hd4 hm4 hF4 Hrd2
                  go_upto_region 26 with ((with_reducible refine wpList_store_row ?g24 34 (.tmp 20) (.tmp 104) ?o24 wc.heap.size Sec.zero.cs.toArray ?x24 ?y24 34 Sec.zero.cs.toArray ?k24 ?s24 ?l24 ?a24 ?_); (case g24 => exact rfl); (case o24 => exact rfl); (case x24 => exact rfl); (case y24 => exact rfl); (case k24 => exact HZ.out); (case s24 => exact ZD.sizeRow _); (case l24 => simp [Sec.len]); (case a24 => exact sec_all _))
                  generalize hWD : World.setRow (World.alloc wc _) _ _ = wd
                  have hWD' : (wc.alloc (.cells Sec.zero.cs.toArray 34)).setRow wc.heap.size Sec.zero.cs.toArray = wd := hWD
                  rw [hWD'] at hbd kt
                  clear hWD hWD' HZ
                  have hdd := Hd4.out.below hbd
                  have Hstate := hide (DM.state_any hdd (j : Int))
                  rw [Hst.out.state] at Hstate
                  rw [hs4] at Hstate
                  have Hcnt3 := hide (fun q => DM.count_any (hdd.drewN q))
                  have hn4 : D3.tick.n = D2.n + 1 := by have := Hst.out.n1; show D3.n + 1 = _; omega
                  rw [hn4] at Hcnt3
                  have ew : IntKind.i64.wrap ((D2.n : Int) + 1) = (D2.n : Int) + 1 := IntWalk.i64_in _ (by have := Hlk.out.cnt; have := Hn1.out; have := Hz.out.2; omega)
                  have Hdd := hide hdd
                  have Hbd := hide hbd
                  have Kt := hide kt
                  have Kpd : Hid (Blk wd gp 34 p.cs.toArray) := hide ((Hbd.out.block _ Kpc.out.lt).trans Kpc.out)
                  have Ksd : Hid (Blk wd wr.heap.size 34 L0[k].cs.toArray) := hide ((Hbd.out.block _ Ksc.out.lt).trans Ksc.out)
                  clear hdd hbd kt hn4
                  go_wp2_with fail
                  refine Hstate.out.mono ?_
                  rintro e w' ⟨rfl, rfl⟩
                  have d1 : decide ((4 : Int) = 4) = true := rfl
                  go_upto_region 27 with (fail)
                  go_quiet ((go_at_call 26; exact DM.quiet Hcnt3.out _))
                  have hwe := ((Mods.refl (fun _ => False) wd).drewN nq |>.below (Nat.le_refl _) (fun _ h => h.elim) : Below wd.heap.size wd (wd.drewN nq))
                  generalize wd.drewN nq = we at hwe ⊢
                  have Hrel : Hid (∃ D2 F2 Fs2, DevIs we d D2 F2 A c bs Fs2 ∧ (∀ b, F2 b → w.heap.size ≤ b ∧ ∀ g', some ⟨g, 0, none⟩ = some (⟨g', 0, none⟩ : Addr) → b ≠ g') ∧ LookOk n (60 + 60 * j) j L0 st (k + 1) D2 ∧ we.ownsRow 0 34 64 (.slice (some ⟨g, 0, none⟩) L0.length rc) L0.length (L0.flatMap Sec.cs) ∧ Below w.heap.size w we) := hide (by
                    have s1 := Hbq.out.size
                    have s2 := Hba.out.size
                    have s3 := Hm3.out.size
                    have s4 := Hm4.out.size
                    have s5 := Hbd.out.size
                    have hF3' : ∀ b, F3 b → w.heap.size ≤ b ∧ b ≠ g := fun b hb => by
                      rcases HF3.out b hb with h | h
                      · exact HF2.out b h
                      · exact ⟨by omega, by omega⟩
                    have hF4' : ∀ b, F4 b → w.heap.size ≤ b ∧ b ≠ g := fun b hb => by
                      rcases HF4.out b hb with h | h
                      · exact hF3' b h
                      · exact ⟨by omega, by omega⟩
                    refine ⟨D3.tick, F4, Fs4, Hdd.out.below hwe, fun b hb => ⟨(hF4' b hb).1, fun g' e => ?_⟩, Hst.out.next, ?_, ?_⟩
                    · simp only [Option.some.injEq, Addr.mk.injEq, and_true] at e
                      rw [← e]; exact (hF4' b hb).2
                    · have r1 := own_mods Hrow.out (Mods.of_below Hba.out (fun _ => False)) (fun _ _ h => h)
                      have r2 := own_mods r1 Hm3.out (fun b hb hf => (HF2.out b hf).2 (by simpa [Value.ownBlock] using hb.symm))
                      have r3 := own_mods r2 Hm4.out (fun b hb hf => (hF3' b hf).2 (by simpa [Value.ownBlock] using hb.symm))
                      have r4 := own_mods r3 (Mods.of_below Hbd.out (fun _ => False)) (fun _ _ h => h)
                      exact own_mods r4 (Mods.of_below hwe (fun _ => False)) (fun _ _ h => h)
                    · have b1 := Hbq.out.trans (Hba.out.mono s1)
                      have b2 := b1.trans (Hm3.out.below b1.size (fun b hb => (HF2.out b hb).1))
                      have b3 := b2.trans (Hm4.out.below b2.size (fun b hb => (hF3' b hb).1))
                      have b4 := b3.trans (Hbd.out.mono b3.size)
                      exact b4.trans (hwe.mono b4.size))
                  clear hwe
                  go_wp2_with fail
                  go_roundw
                  case rel => exact ⟨k + 1, by omega, by go_num, Hrel.out⟩
                  case measure => simp [intOf]; omega
                · have hrd := Hrd.out
                  rw [Hst.out.on hltk hs4] at hrd
                  unfold Sec.agg at hrd
                  have Hrd2 := hide hrd
                  clear hrd Hrd
                  go_wp2_with fail
                  refine Hrd2.out.mono ?_
                  rintro e wc ⟨rfl, hdc⟩
                  have kpc := DDid.box Kpb.out hdc (fun hf => by rcases HF3.out _ hf with h | h; · have := (HF2.out _ h).1; have := Hgp.out; omega
                                                                 · have := Hgp.out; have := Hbq.out.size; have := Hba.out.size; omega)
                  have ksc := DDid.box Ksb.out hdc (fun hf => by rcases HF3.out _ hf with h | h; · have := Hd2.out.lt _ h; omega
                                                                 · have := Ksw.out; omega)
                  obtain ⟨F4, Fs4, hd4, hm4, hF4⟩ := hdc
                  have HZ := hide (Blk.new wc 34 Sec.zero.cs.toArray)
                  have hbd : Below wc.heap.size wc ((wc.alloc (.cells Sec.zero.cs.toArray 34)).setRow wc.heap.size (L0[k].xor p).cs.toArray) := below_setRow ((Below.refl _ wc).alloc (Nat.le_refl _) _) (Nat.le_refl _) _
                  have kt := HZ.out.setRow (L0[k].xor p).cs.toArray
                  have Kpc := hide kpc
                  have Ksc := hide ksc
                  have Hd4 := hide hd4
                  have Hm4 := hide hm4
                  have HF4 := hide hF4
                  clear kpc ksc hd4 hm4 hF4 Hrd2
                  go_upto_region 26 with ((with_reducible refine wpList_store_row ?g24 34 (.tmp 20) (.tmp 104) ?o24 wc.heap.size (L0[k].xor p).cs.toArray ?x24 ?y24 34 Sec.zero.cs.toArray ?k24 ?s24 ?l24 ?a24 ?_); (case g24 => exact rfl); (case o24 => exact rfl); (case x24 => exact rfl); (case y24 => exact rfl); (case k24 => exact HZ.out); (case s24 => exact ZD.sizeRow _); (case l24 => simp [Sec.len]); (case a24 => exact sec_all _))
                  generalize hWD : World.setRow (World.alloc wc _) _ _ = wd
                  have hWD' : (wc.alloc (.cells Sec.zero.cs.toArray 34)).setRow wc.heap.size (L0[k].xor p).cs.toArray = wd := hWD
                  rw [hWD'] at hbd kt
                  clear hWD hWD' HZ
                  have hdd := Hd4.out.below hbd
                  have Hstate := hide (DM.state_any hdd (j : Int))
                  rw [Hst.out.state] at Hstate
                  have Hcnt3 := hide (fun q => DM.count_any (hdd.drewN q))
                  have hn4 : D3.tick.n = D2.n + 1 := by have := Hst.out.n1; show D3.n + 1 = _; omega
                  rw [hn4] at Hcnt3
                  have ew : IntKind.i64.wrap ((D2.n : Int) + 1) = (D2.n : Int) + 1 := IntWalk.i64_in _ (by have := Hlk.out.cnt; have := Hn1.out; have := Hz.out.2; omega)
                  have Hdd := hide hdd
                  have Hbd := hide hbd
                  have Kt := hide kt
                  have Kpd : Hid (Blk wd gp 34 p.cs.toArray) := hide ((Hbd.out.block _ Kpc.out.lt).trans Kpc.out)
                  have Ksd : Hid (Blk wd wr.heap.size 34 L0[k].cs.toArray) := hide ((Hbd.out.block _ Ksc.out.lt).trans Ksc.out)
                  clear hdd hbd kt hn4
                  go_wp2_with fail
                  refine Hstate.out.mono ?_
                  rintro e w' ⟨rfl, rfl⟩
                  have e4 : (st == 4) = false := beq_eq_false_iff_ne.2 hs4
                  have qS := eqS (L0[k].xor p)
                  have uS := Try.underlying34
                  have z1 := ZD.sizeSec L0[k]
                  have z2 := ZD.sizeSec p
                  have z3 := ZD.sizeSec (L0[k].xor p)
                  have rs : (wd.drew).rangeAt wr.heap.size 0 L0[k].cs := ZD.range_blk _ (show Blk wd.drew wr.heap.size 34 _ from Ksd.out)
                  have rp : (wd.drew).rangeAt gp 0 p.cs := ZD.range_blk _ (show Blk wd.drew gp 34 _ from Kpd.out)
                  have rt : (wd.drew).rangeAt wc.heap.size 0 (L0[k].xor p).cs := ZD.range_blk _ (show Blk wd.drew wc.heap.size 34 _ from Kt.out)
                  have Hcnt4 := hide (DM.count_any Hdd.out.drew)
                  have hn4 : D3.tick.n = D2.n + 1 := by have := Hst.out.n1; show D3.n + 1 = _; omega
                  rw [hn4] at Hcnt4
                  have Hxor := hide (fun w => ZD.xor_any L0[k] p w)
                  unfold Sec.agg at Hxor
                  clear hn4 Hcnt3
                  go_upto_region 27 with (fail)
                  refine wp_region_held_drew (S := fun w' => w'.rangeAt wr.heap.size 0 L0[k].cs ∧ w'.rangeAt gp 0 p.cs ∧ w'.rangeAt wc.heap.size 0 (L0[k].xor p).cs) (by kernel_rfl) ⟨rs, rp, rt⟩ (fun hHeld => ?_)
                  refine wpAnyH_take (i := 0) (oi := ⟨_, _, _, _, _, _⟩) (v := ?_) rfl (by kernel_rfl) (by kernel_rfl) (by kernel_rfl) (fun _ _ _ h => h) (Or.inl ⟨by rfl, ?_⟩) hHeld ?_
                  rotate_left
                  · intro w' hS
                    go_simp
                    first | done | with_reducible rfl
                  try simp only [Act.put, List.setIfInBounds_toArray, List.set_cons_zero, List.set_cons_succ]
                  refine wpAnyH_take (i := 2) (oi := ⟨_, _, _, _, _, _⟩) (v := ?_) rfl (by kernel_rfl) (by kernel_rfl) (by kernel_rfl) (fun _ _ _ h => h) (Or.inl ⟨by rfl, ?_⟩) hHeld ?_
                  rotate_left
                  · intro w' hS
                    go_simp
                    first | done | with_reducible rfl
                  try simp only [Act.put, List.setIfInBounds_toArray, List.set_cons_zero, List.set_cons_succ]
                  refine wpAnyH_take (i := 3) (oi := ⟨_, _, _, _, _, _⟩) (v := ?_) rfl (by kernel_rfl) (by kernel_rfl) (by kernel_rfl) (fun _ _ _ h => h) (Or.inl ⟨by rfl, ?_⟩) hHeld ?_
                  rotate_left
                  · intro w' hS
                    go_simp
                    first | done | with_reducible rfl
                  try simp only [Act.put, List.setIfInBounds_toArray, List.set_cons_zero, List.set_cons_succ]
                  refine wpAnyH_ready (rs := [1]) (by kernel_rfl) (by simp) ?_
                  refine AllReadyH.cons rfl (fun K hK => ?_) AllReadyH.nil
                  go_simp
                  refine Hcnt4.out.mono ?_
                  rintro e w' ⟨rfl, rfl⟩
                  go_simp
                  refine hK.out _ _ hHeld (fun hHeld => ?_)
                  clear hK K
                  refine wpAnyH_take (i := 4) (oi := ⟨_, _, _, _, _, _⟩) (v := ?_) rfl (by kernel_rfl) (by kernel_rfl) (by kernel_rfl) (fun _ _ _ h => h) (Or.inl ⟨by rfl, ?_⟩) hHeld ?_
                  rotate_left
                  · intro w' hS
                    go_simp
                    first | done | with_reducible rfl
                  try simp only [Act.put, List.setIfInBounds_toArray, List.set_cons_zero, List.set_cons_succ]
                  refine wpAnyH_take (i := 5) (oi := ⟨_, _, _, _, _, _⟩) (v := ?_) rfl (by kernel_rfl) (by kernel_rfl) (by kernel_rfl) (fun _ _ _ h => h) (Or.inl ⟨by rfl, ?_⟩) hHeld ?_
                  rotate_left
                  · intro w' hS
                    go_simp
                    first | done | with_reducible rfl
                  try simp only [Act.put, List.setIfInBounds_toArray, List.set_cons_zero, List.set_cons_succ]
                  refine wpAnyH_take (i := 6) (oi := ⟨_, _, _, _, _, _⟩) (v := ?_) rfl (by kernel_rfl) (by kernel_rfl) (by kernel_rfl) (fun _ _ _ h => h) (Or.inl ⟨by rfl, ?_⟩) hHeld ?_
                  rotate_left
                  · intro w' hS
                    go_simp
                    first | done | with_reducible rfl
                  try simp only [Act.put, List.setIfInBounds_toArray, List.set_cons_zero, List.set_cons_succ]
                  refine wpAnyH_take (i := 7) (oi := ⟨_, _, _, _, _, _⟩) (v := ?_) rfl (by kernel_rfl) (by kernel_rfl) (by kernel_rfl) (fun _ _ _ h => h) (Or.inl ⟨by rfl, ?_⟩) hHeld ?_
                  rotate_left
                  · intro w' hS
                    go_simp
                    first | done | with_reducible rfl
                  try simp only [Act.put, List.setIfInBounds_toArray, List.set_cons_zero, List.set_cons_succ]
                  refine wpAnyH_take (i := 8) (oi := ⟨_, _, _, _, _, _⟩) (v := ?_) rfl (by kernel_rfl) (by kernel_rfl) (by kernel_rfl) (fun _ _ _ h => h) (Or.inl ⟨by rfl, ?_⟩) hHeld ?_
                  rotate_left
                  · intro w' hS
                    go_simp
                    first | done | with_reducible rfl
                  try simp only [Act.put, List.setIfInBounds_toArray, List.set_cons_zero, List.set_cons_succ]
                  refine wpAnyH_take (i := 9) (oi := ⟨_, _, _, _, _, _⟩) (v := ?_) rfl (by kernel_rfl) (by kernel_rfl) (by kernel_rfl) (fun _ _ _ h => h) (Or.inl ⟨by rfl, ?_⟩) hHeld ?_
                  rotate_left
                  · intro w' hS
                    go_simp
                    first | done | with_reducible rfl
                  try simp only [Act.put, List.setIfInBounds_toArray, List.set_cons_zero, List.set_cons_succ]
                  refine wpAnyH_take (i := 10) (oi := ⟨_, _, _, _, _, _⟩) (v := ?_) rfl (by kernel_rfl) (by kernel_rfl) (by kernel_rfl) (fun _ _ _ h => h) (Or.inl ⟨by rfl, ?_⟩) hHeld ?_
                  rotate_left
                  · intro w' hS
                    go_simp
                    first | done | with_reducible rfl
                  try simp only [Act.put, List.setIfInBounds_toArray, List.set_cons_zero, List.set_cons_succ]
                  refine wpAnyH_take (i := 11) (oi := ⟨_, _, _, _, _, _⟩) (v := ?_) rfl (by kernel_rfl) (by kernel_rfl) (by kernel_rfl) (fun _ _ _ h => h) (Or.inl ⟨by rfl, ?_⟩) hHeld ?_
                  rotate_left
                  · intro w' hS
                    go_simp
                    first | done | with_reducible rfl
                  try simp only [Act.put, List.setIfInBounds_toArray, List.set_cons_zero, List.set_cons_succ]
                  refine wpAnyH_take (i := 12) (oi := ⟨_, _, _, _, _, _⟩) (v := ?_) rfl (by kernel_rfl) (by kernel_rfl) (by kernel_rfl) (fun _ _ _ h => h) (Or.inl ⟨by rfl, ?_⟩) hHeld ?_
                  rotate_left
                  · intro w' hS
                    go_simp
                    first | done | with_reducible rfl
                  try simp only [Act.put, List.setIfInBounds_toArray, List.set_cons_zero, List.set_cons_succ]
                  refine wpAnyH_take (i := 13) (oi := ⟨_, _, _, _, _, _⟩) (v := ?_) rfl (by kernel_rfl) (by kernel_rfl) (by kernel_rfl) (fun _ _ _ h => h) (Or.inl ⟨by rfl, ?_⟩) hHeld ?_
                  rotate_left
                  · intro w' hS
                    go_simp
                    first | done | with_reducible rfl
                  try simp only [Act.put, List.setIfInBounds_toArray, List.set_cons_zero, List.set_cons_succ]
                  refine wpAnyH_take (i := 14) (oi := ⟨_, _, _, _, _, _⟩) (v := ?_) rfl (by kernel_rfl) (by kernel_rfl) (by kernel_rfl) (fun _ _ _ h => h) (Or.inl ⟨by rfl, ?_⟩) hHeld ?_
                  rotate_left
                  · intro w' hS
                    go_simp
                    first | done | with_reducible rfl
                  try simp only [Act.put, List.setIfInBounds_toArray, List.set_cons_zero, List.set_cons_succ]
                  refine wpAnyH_take (i := 15) (oi := ⟨_, _, _, _, _, _⟩) (v := ?_) rfl (by kernel_rfl) (by kernel_rfl) (by kernel_rfl) (fun _ _ _ h => h) (Or.inl ⟨by rfl, ?_⟩) hHeld ?_
                  rotate_left
                  · intro w' hS
                    go_simp
                    first | done | with_reducible rfl
                  try simp only [Act.put, List.setIfInBounds_toArray, List.set_cons_zero, List.set_cons_succ]
                  refine wpAnyH_take (i := 16) (oi := ⟨_, _, _, _, _, _⟩) (v := ?_) rfl (by kernel_rfl) (by kernel_rfl) (by kernel_rfl) (fun _ _ _ h => h) (Or.inl ⟨by rfl, ?_⟩) hHeld ?_
                  rotate_left
                  · intro w' hS
                    go_simp
                    first | done | with_reducible rfl
                  try simp only [Act.put, List.setIfInBounds_toArray, List.set_cons_zero, List.set_cons_succ]
                  refine wpAnyH_take (i := 17) (oi := ⟨_, _, _, _, _, _⟩) (v := ?_) rfl (by kernel_rfl) (by kernel_rfl) (by kernel_rfl) (fun _ _ _ h => h) (Or.inl ⟨by rfl, ?_⟩) hHeld ?_
                  rotate_left
                  · intro w' hS
                    go_simp
                    first | done | with_reducible rfl
                  try simp only [Act.put, List.setIfInBounds_toArray, List.set_cons_zero, List.set_cons_succ]
                  refine wpAnyH_take (i := 18) (oi := ⟨_, _, _, _, _, _⟩) (v := .agg (L0[k].xor p).cs.toArray) rfl (by kernel_rfl) (by kernel_rfl) (by kernel_rfl) (fun _ _ _ h => h) (yieldsIf_load_mid (by rfl) 34 (.tmp 20) rfl wc.heap.size 0 rfl (L0[k].xor p).cs _ (fun w' hS => hS.2.2) Try.underlying34 rfl (ZD.sizeSec _)) hHeld ?_
                  try simp only [Act.put, List.setIfInBounds_toArray, List.set_cons_zero, List.set_cons_succ]
                  refine wpAnyH_take (i := 19) (oi := ⟨_, _, _, _, _, _⟩) (v := .agg L0[k].cs.toArray) rfl (by kernel_rfl) (by kernel_rfl) (by kernel_rfl) (fun _ _ _ h => h) (yieldsIf_load_mid (by rfl) 34 (.tmp 18) rfl wr.heap.size 0 rfl L0[k].cs _ (fun w' hS => hS.1) Try.underlying34 rfl (ZD.sizeSec _)) hHeld ?_
                  try simp only [Act.put, List.setIfInBounds_toArray, List.set_cons_zero, List.set_cons_succ]
                  refine wpAnyH_take (i := 20) (oi := ⟨_, _, _, _, _, _⟩) (v := .agg p.cs.toArray) rfl (by kernel_rfl) (by kernel_rfl) (by kernel_rfl) (fun _ _ _ h => h) (yieldsIf_load_mid (by rfl) 34 (.tmp 9) rfl gp 0 rfl p.cs _ (fun w' hS => hS.2.1) Try.underlying34 rfl (ZD.sizeSec _)) hHeld ?_
                  try simp only [Act.put, List.setIfInBounds_toArray, List.set_cons_zero, List.set_cons_succ]
                  refine wpAnyH_ready (rs := [21]) (by kernel_rfl) (by simp) ?_
                  refine AllReadyH.cons rfl (fun K hK => ?_) AllReadyH.nil
                  go_simp
                  refine (Hxor.out _).mono ?_
                  rintro e we ⟨rfl, hx⟩
                  have us := ZD.range_blk _ ((hx.block _ Ksd.out.lt).trans (show Blk wd.drew wr.heap.size 34 _ from Ksd.out))
                  have up := ZD.range_blk _ ((hx.block _ Kpd.out.lt).trans (show Blk wd.drew gp 34 _ from Kpd.out))
                  have ut := ZD.range_blk _ ((hx.block _ Kt.out.lt).trans (show Blk wd.drew wc.heap.size 34 _ from Kt.out))
                  have Hx := hide hx
                  clear hx
                  go_simp
                  refine hK.out _ _ ⟨us, up, ut⟩ (fun hHeld => ?_)
                  clear hK K
                  refine wpAnyH_take (i := 22) (oi := ⟨_, _, _, _, _, _⟩) (v := ?_) rfl (by kernel_rfl) (by kernel_rfl) (by kernel_rfl) (fun _ _ _ h => h) (Or.inl ⟨by rfl, ?_⟩) hHeld ?_
                  rotate_left
                  · intro w' hS
                    go_simp
                    first | done | with_reducible rfl
                  try simp only [Act.put, List.setIfInBounds_toArray, List.set_cons_zero, List.set_cons_succ]
                  refine wpAnyH_take (i := 23) (oi := ⟨_, _, _, _, _, _⟩) (v := ?_) rfl (by kernel_rfl) (by kernel_rfl) (by kernel_rfl) (fun _ _ _ h => h) (Or.inl ⟨by rfl, ?_⟩) hHeld ?_
                  rotate_left
                  · intro w' hS
                    go_simp
                    first | done | with_reducible rfl
                  try simp only [Act.put, List.setIfInBounds_toArray, List.set_cons_zero, List.set_cons_succ]
                  refine wpAnyH_take (i := 24) (oi := ⟨_, _, _, _, _, _⟩) (v := ?_) rfl (by kernel_rfl) (by kernel_rfl) (by kernel_rfl) (fun _ _ _ h => h) (Or.inl ⟨by rfl, ?_⟩) hHeld ?_
                  rotate_left
                  · intro w' hS
                    go_simp
                    first | done | with_reducible rfl
                  try simp only [Act.put, List.setIfInBounds_toArray, List.set_cons_zero, List.set_cons_succ]
                  refine wpAnyH_take (i := 25) (oi := ⟨_, _, _, _, _, _⟩) (v := ?_) rfl (by kernel_rfl) (by kernel_rfl) (by kernel_rfl) (fun _ _ _ h => h) (Or.inl ⟨by rfl, ?_⟩) hHeld ?_
                  rotate_left
                  · intro w' hS
                    go_simp
                    first | done | with_reducible rfl
                  try simp only [Act.put, List.setIfInBounds_toArray, List.set_cons_zero, List.set_cons_succ]
                  refine wpAnyH_done (by kernel_rfl) ?_ _
                  have hwe : Below wd.heap.size wd we := ((Below.refl _ wd).drew).trans Hx.out
                  have Hrel : Hid (∃ D2 F2 Fs2, DevIs we d D2 F2 A c bs Fs2 ∧ (∀ b, F2 b → w.heap.size ≤ b ∧ ∀ g', some ⟨g, 0, none⟩ = some (⟨g', 0, none⟩ : Addr) → b ≠ g') ∧ LookOk n (60 + 60 * j) j L0 st (k + 1) D2 ∧ we.ownsRow 0 34 64 (.slice (some ⟨g, 0, none⟩) L0.length rc) L0.length (L0.flatMap Sec.cs) ∧ Below w.heap.size w we) := hide (by
                    have s1 := Hbq.out.size
                    have s2 := Hba.out.size
                    have s3 := Hm3.out.size
                    have s4 := Hm4.out.size
                    have s5 := Hbd.out.size
                    have hF3' : ∀ b, F3 b → w.heap.size ≤ b ∧ b ≠ g := fun b hb => by
                      rcases HF3.out b hb with h | h
                      · exact HF2.out b h
                      · exact ⟨by omega, by omega⟩
                    have hF4' : ∀ b, F4 b → w.heap.size ≤ b ∧ b ≠ g := fun b hb => by
                      rcases HF4.out b hb with h | h
                      · exact hF3' b h
                      · exact ⟨by omega, by omega⟩
                    refine ⟨D3.tick, F4, Fs4, Hdd.out.below hwe, fun b hb => ⟨(hF4' b hb).1, fun g' e => ?_⟩, Hst.out.next, ?_, ?_⟩
                    · simp only [Option.some.injEq, Addr.mk.injEq, and_true] at e
                      rw [← e]; exact (hF4' b hb).2
                    · have r1 := own_mods Hrow.out (Mods.of_below Hba.out (fun _ => False)) (fun _ _ h => h)
                      have r2 := own_mods r1 Hm3.out (fun b hb hf => (HF2.out b hf).2 (by simpa [Value.ownBlock] using hb.symm))
                      have r3 := own_mods r2 Hm4.out (fun b hb hf => (hF3' b hf).2 (by simpa [Value.ownBlock] using hb.symm))
                      have r4 := own_mods r3 (Mods.of_below Hbd.out (fun _ => False)) (fun _ _ h => h)
                      exact own_mods r4 (Mods.of_below hwe (fun _ => False)) (fun _ _ h => h)
                    · have b1 := Hbq.out.trans (Hba.out.mono s1)
                      have b2 := b1.trans (Hm3.out.below b1.size (fun b hb => (HF2.out b hb).1))
                      have b3 := b2.trans (Hm4.out.below b2.size (fun b hb => (hF3' b hb).1))
                      have b4 := b3.trans (Hbd.out.mono b3.size)
                      exact b4.trans (hwe.mono b4.size))
                  clear hwe
                  go_wp2_with fail
                  go_roundw
                  case rel => exact ⟨k + 1, by omega, by go_num, Hrel.out⟩
                  case measure => simp [intOf]; omega
              · obtain rfl : k = L0.length := by omega
                have Hrel : Hid (∃ D F Fs, DevIs wr d D F A c bs Fs ∧ (∀ b, F b → w.heap.size ≤ b) ∧ LooksOk n (60 + 60 * (j + 1)) D ∧ Below w.heap.size w wr) := hide ⟨D2, F2, Fs2, hd2, fun b hb => (hF2 b hb).1, by have := hlk.leave hL60; rwa [show 60 + 60 * j + 60 = 60 + 60 * (j + 1) by omega] at this, hbq⟩
                clear hd2 hF2 hlk hrow hbq
                have hn40 : n ≤ 40 := Hz.out.2
                go_wp2_with fail
                go_roundw
                case rel => exact ⟨j + 1, by omega, by go_num, Hrel.out⟩
                case measure => simp [intOf]; omega
          · obtain rfl : n = j := by omega
            have HbS2 := hide (HbS.out.trans (hb1.mono HbS.out.size))
            clear hd1 hF1 hlo hb1
            go_wp2_with fail
            go_ret
            exact ⟨rfl, HbS2.out⟩
end Go.Proofs.Ytdinbhanekpjoaa
