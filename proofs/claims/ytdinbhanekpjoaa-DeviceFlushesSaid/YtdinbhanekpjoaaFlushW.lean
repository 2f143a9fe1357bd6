/-
  The walk of DeviceFlushes: it answers true, and nothing that was there has turned.
-/
import Derived.Test.YtdinbhanekpjoaaFlush7
import Derived.Deep.OwnRows
import Derived.Lib.MinMax
namespace Go.Proofs.Ytdinbhanekpjoaa
open Go.RowKit

theorem flush_facts {D : Dv} : (∀ i (h : i < (D.tick.mapTo (fun _ z => z.flush) D.zs.length).zs.length), (D.tick.mapTo (fun _ z => z.flush) D.zs.length).zs[i].safe = (D.tick.mapTo (fun _ z => z.flush) D.zs.length).zs[i].L.length) ∧ (D.tick.mapTo (fun _ z => z.flush) D.zs.length).down = D.down := by
  refine ⟨fun i h => ?_, rfl⟩
  have hi : i < D.zs.length := by simpa [Dv.mapTo, Dv.tick] using h
  simp only [Dv.mapTo, List.getElem_mapIdx, if_pos hi]
  rfl
theorem below_drewN' {B : Nat} {a w : World} (h : Below B a w) (n : Nat) : Below B a (w.drewN n) := ⟨h.os, h.tape, h.output, h.size, h.block⟩
theorem DevIs.low {w wr : World} {F F1 : Nat → Prop} (h : ∀ b, F b → w.heap.size ≤ b) (hs : w.heap.size ≤ wr.heap.size) (h1 : ∀ k, F1 k → F k ∨ wr.heap.size ≤ k) : ∀ b, F1 b → w.heap.size ≤ b := fun b hb => by
  rcases h1 b hb with h2 | h2
  · exact h b h2
  · omega

set_option maxRecDepth 100000 in
set_option maxHeartbeats 4000000 in
theorem flush_walk (n : Nat) (size op : Int) (A1 : Option Addr) (cap1 : Nat) (os : List OpV) (A2m : Option Addr) (cap2 : Nat) (ms : List OpV) (K : Option Addr) (keep : List Int) (kc : Nat) (w : World) (h1 : CameOps w A1 os) (hz1 : 1 ≤ n) (hz2 : n ≤ 40) (hs1 : 1 ≤ size) (hs2 : size ≤ 64) (ho1 : 1 ≤ op) (ho2 : op ≤ 64) (hn1 : os.length ≤ 60) (h2 : CameOps w A2m ms) (hn2 : ms.length ≤ 60) (hK : DM.CameInts w K keep) (hkl : keep.length ≤ maxLen) :
    Calls Try.prog 4 #[.int .i64 (n : Int), .int .i64 size, .int .i64 op, .slice A1 os.length cap1, .slice A2m ms.length cap2, .slice K keep.length kc] w fun e w' => e = .returned (.bool true) ∧ Below w.heap.size w w' := by
  have h1' := hide h1
  have Hr : Hid (∀ w, Calls Try.prog 14 #[.int .i64 (n : Int), .int .i64 size, .int .i64 op] w fun e w' => e = .returned (.bool true) ∧ w = w') := hide (fun w => by
    have := right_any (n : Int) size op w
    rwa [show rightB (n : Int) size op = true by simp [rightB, hs1, hs2, ho1, ho2]; omega] at this)
  have Hnew := hide (fun w => DM.new_any (n : Int) size op w (by omega) (by omega) hs1 hs2 ho1 ho2)
  have Href := hide (fun w => R7.new_any (n : Int) size op w (by omega) (by omega))
  have d1 : decide ((40 : Int) < (n : Int)) = false := decide_eq_false (by omega)
  have d2 : decide (40 < n) = false := decide_eq_false (by omega)
  have d3 : decide (60 < os.length) = false := decide_eq_false (by omega)
  have d4 : decide ((60 : Int) < (os.length : Int)) = false := decide_eq_false (by omega)
  have d5 : decide (60 < ms.length) = false := decide_eq_false (by omega)
  have d6 : decide ((60 : Int) < (ms.length : Int)) = false := decide_eq_false (by omega)
  have Hn2 := hide hn2
  have h2' := hide h2
  have HK := hide hK
  have Hkl := hide hkl
  clear h2 hn2 hK hkl
  have Hn1 := hide hn1
  have Hz := hide (And.intro hz1 hz2)
  clear h1 hs1 hs2 ho1 ho2 hn1 hz1 hz2
  go_enter Try.func4, Try.ntmps4
  go_wp2_with fail
  refine (anchor7_any _).mono ?_
  rintro e w1 ⟨rfl, hb1⟩
  go_wp2_with fail
  refine (Hr.out _).mono ?_
  rintro e w' ⟨rfl, rfl⟩
  go_wp2_with fail
  refine (Hnew.out _).mono ?_
  rintro e w2 ⟨rfl, hlaid⟩
  have Hlaid := hide hlaid
  have Hb1 := hide hb1
  clear hlaid hb1
  go_wp2_with fail
  refine (Href.out _).mono ?_
  rintro e w3 ⟨A', c', es, rfl, hr3, hb3⟩
  have hrel0 := hide (Rel7.start Hb1.out Hlaid.out hr3 hb3)
  rw [Int.toNat_natCast] at hrel0 ⊢
  have Hok0 := hide (made_ok n size op)
  have hop : Hid ((Dv.made n size op).op = op) := hide rfl
  generalize Dv.made n size op = D0 at hrel0 Hok0 hop ⊢
  clear hr3 hb3 Hlaid Hnew Href Hr
  go_wp2_with fail
  obtain ⟨wI, hwI⟩ : ∃ wI, wI = w3.alloc (.cells #[.slice A' D0.zs.length c', .int .i64 D0.size, .int .i64 D0.op, .int .i64 (D0.n : Int), .bool D0.down] 31) := ⟨_, rfl⟩
  have hrelI : Hid (Rel7 w w3.heap.size w1.heap.size D0 wI) := by rw [hwI]; exact hrel0
  rw [← hwI]
  clear hwI hrel0
  generalize w3.heap.size = gb at hrelI ⊢
  generalize w1.heap.size = d at hrelI ⊢
  go_loopw [66] (fun i wr => ∃ k : Nat, k ≤ os.length ∧ i = .int .i64 k ∧ Rel7 w gb d (playTo D0 os k) wr) (fun i _ => os.length - (intOf i).toNat)
  case atStart => exact ⟨0, Nat.zero_le _, rfl, by rw [playTo_zero]; exact hrelI.out⟩
  case round =>
    obtain ⟨k, hk, rfl, hR⟩ := hrel
    have HR := hide hR
    have Hw := hide hR.world
    obtain ⟨F, A, c, bs, Fs, A2, c2, es2, G, hT, hg, hFg, hGg, hF, hG, hbel, hgw⟩ := hR
    obtain ⟨hOk, hLike⟩ := playTo_ok Hok0.out.1 os k hk
    have hlen : (playTo D0 os k).zs.length = n := hLike.len.trans Hok0.out.2.2
    have Hs := hide (fun h : k < os.length => playTo_succ D0 os k h)
    generalize playTo D0 os k = D at hOk hLike hlen hT hg HR Hs
    have HOk := hide hOk
    have Hlen := hide hlen
    have HT := hide hT
    have Hg := hide hg
    have HF := hide (And.intro hFg (And.intro hGg (And.intro hF (And.intro hG hgw))))
    have Hbel := hide hbel
    clear hOk hLike hlen hT hg hFg hGg hF hG hbel hgw
    by_cases hlt : k < os.length
    · obtain ⟨ab, off, rfl, hab, hck⟩ := (h1'.out.below Hw.out).2 (by omega)
      have Hck := hide (hck k hlt)
      have HZ := hide (Blk.new wr 37 OpV.zero.cells.toArray)
      have hba : Below wr.heap.size wr ((wr.alloc (.cells OpV.zero.cells.toArray 37)).setRow wr.heap.size os[k].cells.toArray) := below_setRow ((Below.refl _ wr).alloc (Nat.le_refl _) _) (Nat.le_refl _) _
      have hko := HZ.out.setRow os[k].cells.toArray
      clear hck
      go_upto_region 12 with (first | ((with_reducible refine wpList_load_mid ?g1 37 (.tmp 68) ?o1 ab (off + k * 68) ?x1 os[k].cells ?d1 ?r1 ?u1 ?f1 ?i1 ?_); (case g1 => exact rfl); (case o1 => exact rfl); (case x1 => exact rfl); (case r1 => exact Hck.out); (case u1 => exact Try.underlying37); (case f1 => exact rfl); (case i1 => exact sizeOp _)) | ((with_reducible refine wpList_store_row ?g2 37 (.tmp 17) (.tmp 69) ?o2 wr.heap.size os[k].cells.toArray ?x2 ?y2 37 OpV.zero.cells.toArray ?k2 ?s2 ?l2 ?a2 ?_); (case g2 => exact rfl); (case o2 => exact rfl); (case x2 => exact rfl); (case y2 => exact rfl); (case k2 => exact HZ.out); (case s2 => exact sizeOpR _); (case l2 => simp [OpV.length]); (case a2 => exact OpV.all _)))
      generalize hWA : World.setRow (World.alloc wr _) _ _ = wa
      have hWA' : (wr.alloc (.cells OpV.zero.cells.toArray 37)).setRow wr.heap.size os[k].cells.toArray = wa := hWA
      rw [hWA'] at hba hko
      clear hWA hWA' HZ Hck
      have HTa := hide (HT.out.below hba)
      have Hba := hide hba
      have KO := hide hko
      have Hbx := hide HT.out.lt
      clear hba hko
      have hga : Blk wa gb 31 (cellsD A2 c2 D) := (Hba.out.block _ Hg.out.lt).trans Hg.out
      obtain ⟨k0, k1, k2, k3, k4, f0, f1, f2, f3, f4⟩ := Blk.five (show Blk wa gb 31 #[.slice A2 D.zs.length c2, .int .i64 D.size, .int .i64 D.op, .int .i64 (D.n : Int), .bool D.down] from hga)
      have hmem : os[k] ∈ os := List.getElem_mem hlt
      have hci := (h1'.out.1 _ hmem)
      have hwa : Below w.heap.size w wa := Hw.out.trans (Hba.out.mono Hw.out.size)
      have hcw : DM.CameInts wa os[k].K os[k].keep := hci.1.mods (Mods.of_below hwa (fun _ => False)) (fun _ _ _ _ h => h)
      have hst := step_any HTa.out HOk.out (by have := Hn1.out; omega) (by have := Hlen.out; have := Hz.out.2; omega) os[k] hcw (fun h0 b off e hf => by
        obtain ⟨b', off', e', hb', _⟩ := hci.1 h0
        rw [e] at e'
        have := HF.out.2.2.1 b hf
        simp only [Option.some.injEq, Addr.mk.injEq] at e'
        omega) hci.2
      have HS := hide hst
      have Hga := hide hga
      clear hga hmem hci hwa hcw hst
      go_wp2_with ((with_reducible refine wpList_load_mid ?g2 37 (.tmp 17) ?o2 wr.heap.size (0) ?x2 os[k].cells ?d2 ?r2 ?u2 ?f2 ?i2 ?_); (case g2 => exact rfl); (case o2 => exact rfl); (case x2 => exact rfl); (case r2 => exact range_op _ KO.out); (case u2 => exact Try.underlying37); (case f2 => exact rfl); (case i2 => exact sizeOp _))
      refine HS.out.mono ?_
      rintro e w5 ⟨A3, c3, es3, rfl, F', Fs', G', hT5, hm5, hF5, hG5⟩
      have Hsk := hide (Hs.out hlt)
      generalize D.play os[k] = D' at hT5 Hsk ⊢
      have hg5 : Blk w5 gb 31 #[.slice A2 D.zs.length c2, .int .i64 D.size, .int .i64 D.op, .int .i64 (D.n : Int), .bool D.down] := Hga.out.mods hm5 HF.out.1
      have hnext := Rel7.next Hbel.out Hba.out hg5 HF.out.1 HF.out.2.1 HF.out.2.2.1 HF.out.2.2.2.1 Hg.out.lt HF.out.2.2.2.2 hT5 hm5 hF5 hG5
      clear k0 k1 k2 k3 k4 f0 f1 f2 f3 f4
      obtain ⟨k0, k1, k2, k3, k4, f0, f1, f2, f3, f4⟩ := hg5.five
      have Hnext := hide hnext
      clear hnext hg5 hT5 hm5 hF5 hG5 HS
      unfold aggD
      go_upto_region 13 with (fail)
      generalize ((((w5.setCell _ _).setCell _ _).setCell _ _).setCell _ _).setCell _ _ = w6 at Hnext ⊢
      clear k0 k1 k2 k3 k4 f0 f1 f2 f3 f4
      have hk60 : os.length ≤ 60 := Hn1.out
      go_wp2_with fail
      go_roundw
      case rel => exact ⟨k + 1, by omega, by go_num, by rw [Hsk.out]; exact Hnext.out⟩
      case measure => simp [intOf]; omega
    · obtain rfl : k = os.length := by omega
      have Hlow := hide HF.out.2.2.1
      have Hflush := hide (DM.flush_any HT.out.dev (by have := HOk.out.n; have := Hn1.out; omega) (by have := Hlen.out; have := Hz.out.2; omega))
      have Hfo := hide (Dv.flush_ok HOk.out)
      clear Hs HT Hg HF Hbel HR hlt hk
      by_cases hdn : D.down = true
      · rw [Dv.flush_down hdn] at Hflush
        have Hdn := hide hdn
        clear hdn Hfo
        go_wp2_with fail
        refine Hflush.out.mono ?_
        rintro e wf ⟨rfl, F1, Fs1, hd1, hm1, hF1⟩
        have Hda := hide (DM.down_any hd1)
        rw [Hdn.out] at Hda
        have hbf := hide (Hw.out.trans (hm1.below Hw.out.size Hlow.out))
        clear hd1 hm1 hF1 Hflush
        go_wp2_with fail
        refine Hda.out.mono ?_
        rintro e w' ⟨rfl, rfl⟩
        go_wp2_with fail
        go_ret
        exact ⟨rfl, hbf.out⟩
      · rw [Dv.flush_up hdn] at Hflush Hfo
        have Hff := hide (flush_facts (D := D))
        dsimp only at Hfo
        rw [Bool.not_eq_true] at hdn
        generalize D.tick.mapTo (fun _ z => z.flush) D.zs.length = D1 at Hflush Hfo Hff
        have Hdn1 : Hid (D1.down = false) := hide (Hff.out.2.trans hdn)
        have Hlen1 : Hid (D1.zs.length = n) := hide (Hfo.out.2.len.trans Hlen.out)
        have hmk : ∀ w, (Instr.makeSlice 35 (.int .i64 (n : Int)) (.int .i64 (n : Int))).run Try.prog w = .ok (.slice (some ⟨w.heap.size, 0, none⟩) n n) (w.alloc (.cells (intsArr (fun _ => 0) n) 3)) := fun w => by
          have := run_make_row' (P := Try.prog) 35 3 (.int .i64 0) 8 Try.underlying35 infoI rfl .i64 .i64 n (by have := Hz.out.2; omega) (by have := Hz.out.2; omega) w
          rw [intsArr_made] at this
          exact this
        clear hdn
        go_wp2_with fail
        refine Hflush.out.mono ?_
        rintro e wf ⟨rfl, F1, Fs1, hd1, hm1, hF1⟩
        have Hlow1 := hide (DevIs.low Hlow.out Hw.out.size hF1)
        have Hbf := hide (Hw.out.trans (hm1.below Hw.out.size Hlow.out))
        have hba : Below wf.heap.size wf (wf.alloc (.cells (intsArr (fun _ => 0) n) 3)) := (Below.refl _ wf).alloc (Nat.le_refl _) _
        have hd2 := hd1.below hba
        have hbw := Blk.new wf 3 (intsArr (fun _ => 0) n)
        have Hne1 : Hid (∀ b, F1 b → b ≠ wf.heap.size) := hide (fun b hb e => by have := hd1.lt b hb; omega)
        have Hb6 := hide (Hbf.out.trans (hba.mono Hbf.out.size))
        have Hd2 := hide hd2
        have Hbw := hide hbw
        have Hwf := hide Hbf.out.size
        clear hd1 hm1 hF1 hba hd2 hbw Hflush
        go_wp2_with fail
        generalize hW6 : wf.alloc (.cells (intsArr (fun _ => 0) n) 3) = w6 at *
        generalize wf.heap.size = bw at *
        clear hW6
        go_loopw [86] (fun i wq => ∃ j : Nat, j ≤ n ∧ i = .int .i64 j ∧ Blk wq bw 3 (intsArr (upTo D1.lens j) n) ∧ Mods (fun b => b = bw) w6 wq) (fun i _ => n - (intOf i).toNat)
        case atStart => exact ⟨0, by omega, rfl, by rw [← upTo_zero]; exact Hbw.out, Mods.refl _ _⟩
        case round =>
          obtain ⟨j, hj, rfl, hbx, hmx⟩ := hrel
          have hn40 : n ≤ 40 := Hz.out.2
          by_cases hjn : j < n
          · have hj2 : j < D1.zs.length := by have := Hlen1.out; omega
            have hdj := Hd2.out.mods hmx (fun k hk e => Hne1.out k hk e)
            have Hlj := hide (DM.len_any hdj (j : Int))
            rw [Dv.lenOf_lens hj2] at Hlj
            have xj : wr.cell? ⟨bw, j, none⟩ = some (.int .i64 (upTo D1.lens j j)) := by rw [hbx.cell, intsArr_get _ _ _ hjn]
            have fj := hbx.frozen j
            have dj : decide (n ≤ j) = false := decide_eq_false (by omega)
            have Hst := hide (hbx.set_ j (.int .i64 (D1.lens j)))
            have Hmx := hide hmx
            clear hbx hmx hdj hj2
            go_wp2_with fail
            refine Hlj.out.mono ?_
            rintro e w' ⟨rfl, rfl⟩
            go_wp2_with fail
            go_roundw
            case rel => exact ⟨j + 1, by omega, by go_num, by rw [← upTo_succ _ _ _ hjn]; exact Hst.out, Hmx.out.setCell (p := ⟨bw, j, none⟩) (.inl rfl) _⟩
            case measure => simp [intOf]; omega
          · obtain rfl : n = j := by omega
            rw [upTo_all] at hbx
            have hd3 := Hd2.out.mods hmx (fun k hk e => Hne1.out k hk e)
            have hb7 : Below w.heap.size w wr := Hb6.out.trans (hmx.below Hb6.out.size (fun b e => by have := Hwf.out; omega))
            have hba : Below wr.heap.size wr (wr.alloc (.cells (intsArr (fun _ => 0) n) 3)) := (Below.refl _ wr).alloc (Nat.le_refl _) _
            have hd4 := hd3.below hba
            have hbn := Blk.new wr 3 (intsArr (fun _ => 0) n)
            have Hne2 : Hid (∀ b, F1 b → b ≠ wr.heap.size) := hide (fun b hb e => by have := hd3.lt b hb; omega)
            have hbw2 := hbx.alloc (.cells (intsArr (fun _ => 0) n) 3)
            have hwn : bw ≠ wr.heap.size := fun e => by have := hbx.lt; omega
            have Hb8 := hide (hb7.trans (hba.mono hb7.size))
            have Hd4 := hide hd4
            have Hbn := hide hbn
            have Hbw2 := hide hbw2
            have Hwn := hide hwn
            have Hwr := hide hb7.size
            clear hd3 hb7 hba hd4 hbn hbw2 hwn hbx hmx
            go_wp2_with fail
            generalize hW8 : wr.alloc (.cells (intsArr (fun _ => 0) n) 3) = w8 at *
            generalize wr.heap.size = bn at *
            clear hW8
            go_loopw [100] (fun i wr => ∃ k : Nat, k ≤ ms.length ∧ i = .int .i64 k ∧ ∃ F Fs, DevIs wr d (D1.playAs ms k) F A c bs Fs ∧ (∀ b, F b → w.heap.size ≤ b ∧ b ≠ bw ∧ b ≠ bn) ∧ Blk wr bw 3 (intsArr D1.lens n) ∧ Blk wr bn 3 (intsArr (fun _ => 0) n) ∧ Below w.heap.size w wr) (fun i _ => ms.length - (intOf i).toNat)
            case atStart => exact ⟨0, Nat.zero_le _, rfl, F1, Fs1, by rw [Dv.playAs_zero]; exact Hd4.out, fun b hb => ⟨Hlow1.out b hb, Hne1.out b hb, Hne2.out b hb⟩, Hbw2.out, Hbn.out, Hb8.out⟩
            case round =>
              obtain ⟨k, hk, rfl, F3, Fs3, hdk, hlk, hbwk, hbnk, hbk⟩ := hrel
              have HOk3 := hide (Dv.playAs_ok Hfo.out.1 ms k hk)
              have Hlen3 : Hid ((D1.playAs ms k).zs.length = n) := hide (HOk3.out.2.len.trans Hlen1.out)
              have hk60 : ms.length ≤ 60 := Hn2.out
              by_cases hlt : k < ms.length
              · have Hsk := hide (D1.playAs_succ ms k hlt)
                generalize D1.playAs ms k = D3 at hdk HOk3 Hlen3 Hsk
                obtain ⟨ab, off, rfl, hab, hck⟩ := (h2'.out.below hbk).2 (by omega)
                have Hck := hide (hck k hlt)
                have HZ := hide (Blk.new wr 37 OpV.zero.cells.toArray)
                have hba : Below wr.heap.size wr ((wr.alloc (.cells OpV.zero.cells.toArray 37)).setRow wr.heap.size ms[k].cells.toArray) := below_setRow ((Below.refl _ wr).alloc (Nat.le_refl _) _) (Nat.le_refl _) _
                have hko := HZ.out.setRow ms[k].cells.toArray
                have Hdk := hide hdk
                have Hlk := hide hlk
                have Hbwk := hide hbwk
                have Hbnk := hide hbnk
                have Hbk := hide hbk
                clear hck hdk hlk hbwk hbnk hbk
                go_upto_region 26 with (first | ((with_reducible refine wpList_load_mid ?g11 37 (.tmp 102) ?o11 ab (off + k * 68) ?x11 ms[k].cells ?d11 ?r11 ?u11 ?f11 ?i11 ?_); (case g11 => exact rfl); (case o11 => exact rfl); (case x11 => exact rfl); (case r11 => exact Hck.out); (case u11 => exact Try.underlying37); (case f11 => exact rfl); (case i11 => exact sizeOp _)) | ((with_reducible refine wpList_store_row ?g12 37 (.tmp 22) (.tmp 103) ?o12 wr.heap.size ms[k].cells.toArray ?x12 ?y12 37 OpV.zero.cells.toArray ?k12 ?s12 ?l12 ?a12 ?_); (case g12 => exact rfl); (case o12 => exact rfl); (case x12 => exact rfl); (case y12 => exact rfl); (case k12 => exact HZ.out); (case s12 => exact sizeOpR _); (case l12 => simp [OpV.length]); (case a12 => exact OpV.all _)))
                generalize hWA : World.setRow (World.alloc wr _) _ _ = wa
                have hWA' : (wr.alloc (.cells OpV.zero.cells.toArray 37)).setRow wr.heap.size ms[k].cells.toArray = wa := hWA
                rw [hWA'] at hba hko
                clear hWA hWA' HZ Hck
                obtain ⟨o0, o1, o2, o67, or_⟩ := OpV.at_ hko
                have Or := hide or_
                have hda := Hdk.out.below hba
                have Hba := hide hba
                clear or_ hko hba
                by_cases hk1 : ms[k].kind = 1
                · have e1 : (ms[k].kind == 1) = true := beq_iff_eq.2 hk1
                  have hap := DM.append_any hda (by have := HOk3.out.1.n; have := Hn1.out; omega) (by have := Hlen3.out; have := Hz.out.2; omega) (fun x hx => by have := (HOk3.out.1.zs x hx).1; have := Hn1.out; omega) ms[k].zone ms[k].s
                  unfold Sec.agg at hap
                  have Hap := hide hap
                  have Hplay : Hid (D3.playA ms[k] = (D3.append ms[k].zone ms[k].s).1) := hide (by rw [Dv.playA, if_pos hk1])
                  clear hap hda hk1
                  go_wp2_with ((with_reducible refine wpList_load_mid ?g13 34 (.tmp 110) ?o13 wr.heap.size (3) ?x13 ms[k].s.cs ?d13 ?r13 ?u13 ?f13 ?i13 ?_); (case g13 => exact rfl); (case o13 => exact rfl); (case x13 => exact rfl); (case r13 => exact Or.out); (case u13 => exact Try.underlying34); (case f13 => exact rfl); (case i13 => exact ZD.sizeSec _))
                  refine Hap.out.mono ?_
                  rintro e w5 ⟨rfl, F5, Fs5, hd5, hm5, hF5⟩
                  have hs := Hbk.out.size
                  have hsa := Hba.out.size
                  have Hrel : Hid (∃ F Fs, DevIs w5 d (D1.playAs ms (k + 1)) F A c bs Fs ∧ (∀ b, F b → w.heap.size ≤ b ∧ b ≠ bw ∧ b ≠ bn) ∧ Blk w5 bw 3 (intsArr D1.lens n) ∧ Blk w5 bn 3 (intsArr (fun _ => 0) n) ∧ Below w.heap.size w w5) := hide (by
                    have b1 : Blk wa bw 3 _ := (Hba.out.block _ Hbwk.out.lt).trans Hbwk.out
                    have b2 : Blk wa bn 3 _ := (Hba.out.block _ Hbnk.out.lt).trans Hbnk.out
                    have l1 := Hbwk.out.lt
                    have l2 := Hbnk.out.lt
                    refine ⟨F5, Fs5, by rw [Hsk.out, Hplay.out]; exact hd5, fun b hb => ?_, b1.mods hm5 (fun hf => (Hlk.out _ hf).2.1 rfl), b2.mods hm5 (fun hf => (Hlk.out _ hf).2.2 rfl), (Hbk.out.trans (Hba.out.mono hs)).trans (hm5.below (by omega) (fun b hb => (Hlk.out b hb).1))⟩
                    rcases hF5 b hb with h | h
                    · exact Hlk.out b h
                    · exact ⟨by omega, by omega, by omega⟩)
                  clear hd5 hm5 hF5 hs hsa Hap
                  go_wp2_with fail
                  go_roundw
                  case rel => exact ⟨k + 1, by omega, by go_num, Hrel.out⟩
                  case measure => simp [intOf]; omega
                · have e1 : (ms[k].kind == 1) = false := beq_eq_false_iff_ne.2 hk1
                  have Hplay : Hid (D3.playA ms[k] = D3) := hide (by rw [Dv.playA, if_neg hk1])
                  have Hrel : Hid (∃ F Fs, DevIs wa d (D1.playAs ms (k + 1)) F A c bs Fs ∧ (∀ b, F b → w.heap.size ≤ b ∧ b ≠ bw ∧ b ≠ bn) ∧ Blk wa bw 3 (intsArr D1.lens n) ∧ Blk wa bn 3 (intsArr (fun _ => 0) n) ∧ Below w.heap.size w wa) := hide
                    ⟨F3, Fs3, by rw [Hsk.out, Hplay.out]; exact hda, Hlk.out, (Hba.out.block _ Hbwk.out.lt).trans Hbwk.out, (Hba.out.block _ Hbnk.out.lt).trans Hbnk.out, Hbk.out.trans (Hba.out.mono Hbk.out.size)⟩
                  clear hda hk1
                  go_wp2_with fail
                  go_roundw
                  case rel => exact ⟨k + 1, by omega, by go_num, Hrel.out⟩
                  case measure => simp [intOf]; omega
              · obtain rfl : k = ms.length := by omega
                have Hgr := hide (Dv.grows_playAs Hfo.out.1 ms ms.length (Nat.le_refl _))
                generalize D1.playAs ms ms.length = D3 at hdk HOk3 Hlen3 Hgr
                have Hd9 := hide hdk
                have Hlk := hide hlk
                have Hbwk := hide hbwk
                have Hbnk := hide hbnk
                have Hbk := hide hbk
                have Hne3 : Hid (∀ b, F3 b → b ≠ bn) := hide (fun b hb => (hlk b hb).2.2)
                clear hdk hlk hbwk hbnk hbk
                go_wp2_with fail
                go_loopw [115] (fun i wq => ∃ j : Nat, j ≤ n ∧ i = .int .i64 j ∧ Blk wq bn 3 (intsArr (upTo D3.lens j) n) ∧ Mods (fun b => b = bn) wr wq) (fun i _ => n - (intOf i).toNat)
                case atStart => exact ⟨0, by omega, rfl, by rw [← upTo_zero]; exact Hbnk.out, Mods.refl _ _⟩
                case round =>
                  obtain ⟨j, hj, rfl, hbx, hmx⟩ := hrel
                  have hn40 : n ≤ 40 := Hz.out.2
                  by_cases hjn : j < n
                  · have hj2 : j < D3.zs.length := by have := Hlen3.out; omega
                    have hdj := Hd9.out.mods hmx (fun k hk e => Hne3.out k hk e)
                    have Hlj := hide (DM.len_any hdj (j : Int))
                    rw [Dv.lenOf_lens hj2] at Hlj
                    have xj : wr.cell? ⟨bn, j, none⟩ = some (.int .i64 (upTo D3.lens j j)) := by rw [hbx.cell, intsArr_get _ _ _ hjn]
                    have fj := hbx.frozen j
                    have dj : decide (n ≤ j) = false := decide_eq_false (by omega)
                    have Hst := hide (hbx.set_ j (.int .i64 (D3.lens j)))
                    have Hmx := hide hmx
                    clear hbx hmx hdj hj2
                    go_wp2_with fail
                    refine Hlj.out.mono ?_
                    rintro e w' ⟨rfl, rfl⟩
                    go_wp2_with fail
                    go_roundw
                    case rel => exact ⟨j + 1, by omega, by go_num, by rw [← upTo_succ _ _ _ hjn]; exact Hst.out, Hmx.out.setCell (p := ⟨bn, j, none⟩) (.inl rfl) _⟩
                    case measure => simp [intOf]; omega
                  · obtain rfl : n = j := by omega
                    rw [upTo_all] at hbx
                    have hdx := Hd9.out.mods hmx (fun k hk e => Hne3.out k hk e)
                    have hbx1 : Blk wr bw 3 _ := Hbwk.out.mods hmx (fun e => Hwn.out e)
                    have hsb := Hbk.out.size
                    have hbb : Below w.heap.size w wr := Hbk.out.trans (hmx.below hsb (fun b e => by have := Hwr.out; omega))
                    have Hcr := hide (DM.crash_any hdx)
                    have Hbx := hide hbx
                    have Hbx1 := hide hbx1
                    have Hbb := hide hbb
                    clear hdx hbx1 hsb hbb hbx hmx hmk
                    go_wp2_with fail
                    refine Hcr.out.mono ?_
                    rintro e wc ⟨rfl, F7, Fs7, hd7, hm7, hF7⟩
                    have Hl7 : Hid (∀ b, F7 b → w.heap.size ≤ b ∧ b ≠ bw ∧ b ≠ bn) := hide (fun b hb => by
                      have := Hbb.out.size
                      have l1 := Hbx.out.lt
                      have l2 := Hbx1.out.lt
                      rcases hF7 b hb with h | h
                      · exact Hlk.out b h
                      · exact ⟨by omega, by omega, by omega⟩)
                    have b1 : Blk wc bw 3 _ := Hbx1.out.mods hm7 (fun hf => (Hlk.out _ hf).2.1 rfl)
                    have b2 : Blk wc bn 3 _ := Hbx.out.mods hm7 (fun hf => (Hlk.out _ hf).2.2 rfl)
                    have hbc : Below w.heap.size w wc := Hbb.out.trans (hm7.below Hbb.out.size (fun b hb => (Hlk.out b hb).1))
                    have hKc : DM.CameInts wc K keep := HK.out.mods (Mods.of_below hbc (fun _ => False)) (fun _ _ _ _ h => h)
                    have Hrv := hide (DM.revive_any hd7 (by show D3.zs.length < 65536; have := Hlen3.out; have := Hz.out.2; omega) (fun x hx => by have h3 := HOk3.out.1.zs x hx; have := Hn1.out; exact ⟨by omega, h3.2.1⟩) K kc keep hKc (fun h0 b off e hf => by
                      obtain ⟨b', off', e', hb', _⟩ := HK.out h0
                      rw [e] at e'
                      have := (Hl7.out b hf).1
                      simp only [Option.some.injEq, Addr.mk.injEq] at e'
                      omega) Hkl.out)
                    have HB1 := hide b1
                    have HB2 := hide b2
                    have Hbc := hide hbc
                    clear hd7 hm7 hF7 b1 b2 hbc hKc Hcr
                    go_wp2_with fail
                    refine Hrv.out.mono ?_
                    rintro e wd ⟨rfl, F8, Fs8, hd8, hm8, hF8⟩
                    have b1 : Blk wd bw 3 _ := HB1.out.mods hm8 (fun hf => (Hl7.out _ hf).2.1 rfl)
                    have b2 : Blk wd bn 3 _ := HB2.out.mods hm8 (fun hf => (Hl7.out _ hf).2.2 rfl)
                    have hbd : Below w.heap.size w wd := Hbc.out.trans (hm8.below Hbc.out.size (fun b hb => (Hl7.out b hb).1))
                    have Hlaw := hide (fun i (hi : i < n) kk hk => Dv.flushed_len (D1 := D1) (D3 := D3) (keep := keep) (i := i) Hff.out.1 Hgr.out (HOk3.out.2.len) (by have := Hlen1.out; omega) kk hk)
                    have hDn : ∀ D : Dv, D.down = true → (D.revive keep).down = false := fun D hD => by rw [Dv.revive_down keep hD]
                    have HDn := hide (hDn { D3 with down := true } rfl)
                    have Hlen8 : Hid ((({ D3 with down := true } : Dv).revive keep).zs.length = n) := hide ((Dv.revive_ok (D := { D3 with down := true }) (m := 0 + os.length + 1 + ms.length) ⟨HOk3.out.1.n, HOk3.out.1.zs⟩ keep).2.len.trans Hlen3.out)
                    generalize ({ D3 with down := true } : Dv).revive keep = D8 at hd8 Hlaw HDn Hlen8
                    have H0 : Hid (∃ F Fs, DevIs wd d D8 F A c bs Fs ∧ Blk wd bw 3 (intsArr D1.lens n) ∧ Blk wd bn 3 (intsArr D3.lens n) ∧ Below w.heap.size w wd) := hide ⟨F8, Fs8, hd8, b1, b2, hbd⟩
                    have Hpos := hide (fun i => (⟨by unfold Dv.lens; omega, by unfold Dv.lens; omega⟩ : 0 ≤ D1.lens i ∧ 0 ≤ D3.lens i))
                    have Hab := hide (fun i (hi : i < n) => by
                      have h1 := (Hgr.out.2 i (by have := Hlen1.out; omega) (by have := Hlen3.out; omega)).2
                      have h3 := (HOk3.out.1.zs _ (List.getElem_mem (show i < D3.zs.length by have := Hlen3.out; omega))).1
                      have := Hn1.out
                      have := Hn2.out
                      have e1 : D1.lens i = (D1.zs[i]'(by have := Hlen1.out; omega)).L.length := by simp [Dv.lens, show i < D1.zs.length by have := Hlen1.out; omega]
                      have e3 : D3.lens i = (D3.zs[i]'(by have := Hlen3.out; omega)).L.length := by simp [Dv.lens, show i < D3.zs.length by have := Hlen3.out; omega]
                      exact (show 0 ≤ D1.lens i ∧ D1.lens i ≤ D3.lens i ∧ D3.lens i ≤ 1000 by rw [e1, e3]; omega))
                    clear hDn b1 b2 hbd hd8 hm8 hF8 Hrv Hpos
                    go_wp2_with fail
                    go_loopw [131] (fun i wr => ∃ j : Nat, j ≤ n ∧ i = .int .i64 j ∧ ∃ F Fs, DevIs wr d D8 F A c bs Fs ∧ Blk wr bw 3 (intsArr D1.lens n) ∧ Blk wr bn 3 (intsArr D3.lens n) ∧ Below w.heap.size w wr) (fun i _ => n - (intOf i).toNat)
                    case atStart => exact ⟨0, by omega, rfl, H0.out⟩
                    case round =>
                      obtain ⟨j, hj, rfl, F9, Fs9, hdr, hw1, hw2, hbr⟩ := hrel
                      have hn40 : n ≤ 40 := Hz.out.2
                      by_cases hjn : j < n
                      · have hj8 : j < D8.zs.length := by have := Hlen8.out; omega
                        have y1 : wr.cell? ⟨bw, j, none⟩ = some (.int .i64 (D1.lens j)) := by rw [hw1.cell, intsArr_get _ _ _ hjn]
                        have y2 : wr.cell? ⟨bn, j, none⟩ = some (.int .i64 (D3.lens j)) := by rw [hw2.cell, intsArr_get _ _ _ hjn]
                        have dj : decide (n ≤ j) = false := decide_eq_false (by omega)
                        have hab := Hab.out j hjn
                        obtain ⟨hab0, hab1, hab2⟩ := hab
                        have hkl := Hkl.out
                        unfold maxLen at hkl
                        by_cases hjk : j < keep.length
                        · have hla := Hlaw.out j hjn (max keep[j] 0) (by rw [if_pos hjk]; simp [hjk])
                          obtain ⟨bk, ok, rfl, hbk, hck⟩ := HK.out (by omega)
                          have ck : wr.cell? ⟨bk, ok + j, none⟩ = some (.int .i64 keep[j]) := (hbr.cell (p := ⟨bk, ok + j, none⟩) hbk).trans (hck j hjk)
                          clear hck
                          generalize D1.lens j = a at y1 hla hab0 hab1
                          generalize D3.lens j = b at y2 hla hab1 hab2
                          go_upto_region 42 with (fail)
                          have Hlj : Hid (∀ q, Calls Try.prog 21 #[.pointer (some ⟨d, 0, none⟩), .int .i64 (j : Int)] (wr.drewN q) fun e w' => e = .returned (.int .i64 (a + min (max keep[j] 0) (b - a))) ∧ wr.drewN q = w') := hide (fun q => by
                            have := DM.len_any (hdr.drewN q) (j : Int)
                            rw [Dv.lenOf_lens hj8] at this
                            rwa [hla] at this)
                          have ew1 : IntKind.i64.wrap (b - a) = b - a := IntWalk.i64_in _ (by omega)
                          have ew2 : IntKind.i64.wrap (a + min (max keep[j] 0) (b - a)) = a + min (max keep[j] 0) (b - a) := IntWalk.i64_in _ (by omega)
                          have Hrel : Hid (∀ q, ∃ F Fs, DevIs (wr.drewN q) d D8 F A c bs Fs ∧ Blk (wr.drewN q) bw 3 (intsArr D1.lens n) ∧ Blk (wr.drewN q) bn 3 (intsArr D3.lens n) ∧ Below w.heap.size w (wr.drewN q)) := hide (fun q => ⟨_, _, hdr.drewN q, hw1, hw2, below_drewN' hbr q⟩)
                          clear hla hab0 hab1 hdr hw1 hw2 hbr hj8 hkl
                          go_quiet ((go_at_call 21; exact DM.quiet Hlj.out _))
                          go_wp2_with fail
                          go_roundw
                          case rel => exact ⟨j + 1, by omega, by go_num, Hrel.out _⟩
                          case measure => simp [intOf]; omega
                        · have hla := Hlaw.out j hjn 0 (by rw [if_neg hjk])
                          have djk : decide (j < keep.length) = false := decide_eq_false hjk
                          generalize D1.lens j = a at y1 hla hab0 hab1
                          generalize D3.lens j = b at y2 hla hab1 hab2
                          go_upto_region 42 with (fail)
                          have Hlj : Hid (∀ q, Calls Try.prog 21 #[.pointer (some ⟨d, 0, none⟩), .int .i64 (j : Int)] (wr.drewN q) fun e w' => e = .returned (.int .i64 (a + min (0) (b - a))) ∧ wr.drewN q = w') := hide (fun q => by
                            have := DM.len_any (hdr.drewN q) (j : Int)
                            rw [Dv.lenOf_lens hj8] at this
                            rwa [hla] at this)
                          have ew1 : IntKind.i64.wrap (b - a) = b - a := IntWalk.i64_in _ (by omega)
                          have ew2 : IntKind.i64.wrap (a + min (0) (b - a)) = a + min (0) (b - a) := IntWalk.i64_in _ (by omega)
                          have Hrel : Hid (∀ q, ∃ F Fs, DevIs (wr.drewN q) d D8 F A c bs Fs ∧ Blk (wr.drewN q) bw 3 (intsArr D1.lens n) ∧ Blk (wr.drewN q) bn 3 (intsArr D3.lens n) ∧ Below w.heap.size w (wr.drewN q)) := hide (fun q => ⟨_, _, hdr.drewN q, hw1, hw2, below_drewN' hbr q⟩)
                          clear hla hab0 hab1 hdr hw1 hw2 hbr hj8 hkl
                          go_quiet ((go_at_call 21; exact DM.quiet Hlj.out _))
                          go_wp2_with fail
                          go_roundw
                          case rel => exact ⟨j + 1, by omega, by go_num, Hrel.out _⟩
                          case measure => simp [intOf]; omega
                      · obtain rfl : n = j := by omega
                        have Hda := hide (DM.down_any hdr)
                        rw [HDn.out] at Hda
                        have Hbr := hide hbr
                        clear hdr hw1 hw2 hbr
                        go_wp2_with fail
                        refine Hda.out.mono ?_
                        rintro e w' ⟨rfl, rfl⟩
                        go_wp2_with fail
                        go_ret
                        exact ⟨rfl, Hbr.out⟩
end Go.Proofs.Ytdinbhanekpjoaa
