/-
  The walk of DevicePlays: it answers true, and nothing that was there has turned.
-/
import Derived.Test.YtdinbhanekpjoaaSame7
import Derived.Test.YtdinbhanekpjoaaLimitProof
import Derived.Deep.OwnRows
namespace Go.Proofs.Ytdinbhanekpjoaa
open Go.RowKit

set_option maxRecDepth 100000 in
set_option maxHeartbeats 4000000 in
theorem plays_walk (n : Nat) (size op : Int) (A1 : Option Addr) (cap1 : Nat) (os : List OpV) (w : World) (h1 : CameOps w A1 os) (hz1 : 1 ≤ n) (hz2 : n ≤ 40) (hs1 : 1 ≤ size) (hs2 : size ≤ 64) (ho1 : 1 ≤ op) (ho2 : op ≤ 64) (hn1 : os.length ≤ 60) :
    Calls Try.prog 6 #[.int .i64 (n : Int), .int .i64 size, .int .i64 op, .slice A1 os.length cap1] w fun e w' => e = .returned (.bool true) ∧ Below w.heap.size w w' := by
  have h1' := hide h1
  have Hr : Hid (∀ w, Calls Try.prog 14 #[.int .i64 (n : Int), .int .i64 size, .int .i64 op] w fun e w' => e = .returned (.bool true) ∧ w = w') := hide (fun w => by
    have := right_any (n : Int) size op w
    rwa [show rightB (n : Int) size op = true by simp [rightB, hs1, hs2, ho1, ho2]; omega] at this)
  have Hnew := hide (fun w => DM.new_any (n : Int) size op w (by omega) (by omega) hs1 hs2 ho1 ho2)
  have Href := hide (fun w => R7.new_any (n : Int) size op w (by omega) (by omega))
  have d1 : decide ((40 : Int) < (n : Int)) = false := decide_eq_false (by omega)
  have d2 : decide (40 < n) = false := decide_eq_false (by omega)
  have d3 : decide (60 < os.length) = false := decide_eq_false (by omega)
  have d4 : decide ((60 : Int) < (os.length : Int)) = false := decide_eq_false (by omega)
  have Hn1 := hide hn1
  have Hz := hide (And.intro hz1 hz2)
  clear h1 hs1 hs2 ho1 ho2 hn1 hz1 hz2
  go_enter Try.func6, Try.ntmps6
  go_wp2_with fail
  refine (anchor7_any _).mono ?_
  rintro e w1 ⟨rfl, hb1⟩
  go_wp2_with fail
  refine (Hnew.out _).mono ?_
  rintro e w2 ⟨rfl, hlaid⟩
  have Hlaid := hide hlaid
  have Hb1 := hide hb1
  clear hlaid hb1
  go_wp2_with fail
  refine (Hr.out _).mono ?_
  rintro e w' ⟨rfl, rfl⟩
  go_wp2_with fail
  refine (Href.out _).mono ?_
  rintro e w3 ⟨A', c', es, rfl, hr3, hb3⟩
  have hrel0 := hide (Rel7.start Hb1.out Hlaid.out hr3 hb3)
  rw [Int.toNat_natCast] at hrel0 ⊢
  have Hok0 := hide (made_ok n size op)
  have hop : Hid ((Dv.made n size op).op = op) := hide rfl
  generalize Dv.made n size op = D0 at hrel0 Hok0 hop ⊢
  clear hr3 hb3 Hlaid Hnew Href Hr
  go_wp2_with fail
  obtain ⟨wI, hwI⟩ : ∃ wI, wI = w3.alloc (.cells #[.slice A' D0.zs.length c', .int .i64 D0.size, .int .i64 D0.op, .int .i64 (D0.n : Int), .bool D0.down] 31) := ⟨_, rfl⟩
  have hrelI : Hid (Rel7 w w3.heap.size w1.heap.size D0 wI) := by rw [hwI]; exact hrel0
  rw [← hwI]
  clear hwI hrel0
  generalize w3.heap.size = gb at hrelI ⊢
  generalize w1.heap.size = d at hrelI ⊢
  go_loopw [58] (fun i wr => ∃ k : Nat, k ≤ os.length ∧ i = .int .i64 k ∧ Rel7 w gb d (playTo D0 os k) wr) (fun i _ => os.length - (intOf i).toNat)
  case atStart => exact ⟨0, Nat.zero_le _, rfl, by rw [playTo_zero]; exact hrelI.out⟩
  case round =>
    obtain ⟨k, hk, rfl, hR⟩ := hrel
    have HR := hide hR
    have Hw := hide hR.world
    obtain ⟨F, A, c, bs, Fs, A2, c2, es2, G, hT, hg, hFg, hGg, hF, hG, hbel, hgw⟩ := hR
    obtain ⟨hOk, hLike⟩ := playTo_ok Hok0.out.1 os k hk
    have hlen : (playTo D0 os k).zs.length = n := hLike.len.trans Hok0.out.2.2
    have Hs := hide (fun h : k < os.length => playTo_succ D0 os k h)
    generalize playTo D0 os k = D at hOk hLike hlen hT hg HR Hs
    have HOk := hide hOk
    have Hlen := hide hlen
    have HT := hide hT
    have Hg := hide hg
    have HF := hide (And.intro hFg (And.intro hGg (And.intro hF (And.intro hG hgw))))
    have Hbel := hide hbel
    clear hOk hLike hlen hT hg hFg hGg hF hG hbel hgw
    by_cases hlt : k < os.length
    · obtain ⟨ab, off, rfl, hab, hck⟩ := (h1'.out.below Hw.out).2 (by omega)
      have Hck := hide (hck k hlt)
      have HZ := hide (Blk.new wr 37 OpV.zero.cells.toArray)
      have hba : Below wr.heap.size wr ((wr.alloc (.cells OpV.zero.cells.toArray 37)).setRow wr.heap.size os[k].cells.toArray) := below_setRow ((Below.refl _ wr).alloc (Nat.le_refl _) _) (Nat.le_refl _) _
      have hko := HZ.out.setRow os[k].cells.toArray
      clear hck
      go_upto_region 14 with (first | ((with_reducible refine wpList_load_mid ?g1 37 (.tmp 60) ?o1 ab (off + k * 68) ?x1 os[k].cells ?d1 ?r1 ?u1 ?f1 ?i1 ?_); (case g1 => exact rfl); (case o1 => exact rfl); (case x1 => exact rfl); (case r1 => exact Hck.out); (case u1 => exact Try.underlying37); (case f1 => exact rfl); (case i1 => exact sizeOp _)) | ((with_reducible refine wpList_store_row ?g2 37 (.tmp 13) (.tmp 61) ?o2 wr.heap.size os[k].cells.toArray ?x2 ?y2 37 OpV.zero.cells.toArray ?k2 ?s2 ?l2 ?a2 ?_); (case g2 => exact rfl); (case o2 => exact rfl); (case x2 => exact rfl); (case y2 => exact rfl); (case k2 => exact HZ.out); (case s2 => exact sizeOpR _); (case l2 => simp [OpV.length]); (case a2 => exact OpV.all _)))
      generalize hWA : World.setRow (World.alloc wr _) _ _ = wa
      have hWA' : (wr.alloc (.cells OpV.zero.cells.toArray 37)).setRow wr.heap.size os[k].cells.toArray = wa := hWA
      rw [hWA'] at hba hko
      clear hWA hWA' HZ Hck
      have HTa := hide (HT.out.below hba)
      have Hba := hide hba
      have KO := hide hko
      have Hbx := hide HT.out.lt
      clear hba hko
      have hga : Blk wa gb 31 (cellsD A2 c2 D) := (Hba.out.block _ Hg.out.lt).trans Hg.out
      obtain ⟨k0, k1, k2, k3, k4, f0, f1, f2, f3, f4⟩ := Blk.five (show Blk wa gb 31 #[.slice A2 D.zs.length c2, .int .i64 D.size, .int .i64 D.op, .int .i64 (D.n : Int), .bool D.down] from hga)
      have hmem : os[k] ∈ os := List.getElem_mem hlt
      have hci := (h1'.out.1 _ hmem)
      have hwa : Below w.heap.size w wa := Hw.out.trans (Hba.out.mono Hw.out.size)
      have hcw : DM.CameInts wa os[k].K os[k].keep := hci.1.mods (Mods.of_below hwa (fun _ => False)) (fun _ _ _ _ h => h)
      have hst := step_any HTa.out HOk.out (by have := Hn1.out; omega) (by have := Hlen.out; have := Hz.out.2; omega) os[k] hcw (fun h0 b off e hf => by
        obtain ⟨b', off', e', hb', _⟩ := hci.1 h0
        rw [e] at e'
        have := HF.out.2.2.1 b hf
        simp only [Option.some.injEq, Addr.mk.injEq] at e'
        omega) hci.2
      have HS := hide hst
      have Hga := hide hga
      clear hga hmem hci hwa hcw hst
      go_wp2_with ((with_reducible refine wpList_load_mid ?g2 37 (.tmp 13) ?o2 wr.heap.size (0) ?x2 os[k].cells ?d2 ?r2 ?u2 ?f2 ?i2 ?_); (case g2 => exact rfl); (case o2 => exact rfl); (case x2 => exact rfl); (case r2 => exact range_op _ KO.out); (case u2 => exact Try.underlying37); (case f2 => exact rfl); (case i2 => exact sizeOp _))
      refine HS.out.mono ?_
      rintro e w5 ⟨A3, c3, es3, rfl, F', Fs', G', hT5, hm5, hF5, hG5⟩
      have Hsk := hide (Hs.out hlt)
      generalize D.play os[k] = D' at hT5 Hsk ⊢
      have hg5 : Blk w5 gb 31 #[.slice A2 D.zs.length c2, .int .i64 D.size, .int .i64 D.op, .int .i64 (D.n : Int), .bool D.down] := Hga.out.mods hm5 HF.out.1
      have hnext := Rel7.next Hbel.out Hba.out hg5 HF.out.1 HF.out.2.1 HF.out.2.2.1 HF.out.2.2.2.1 Hg.out.lt HF.out.2.2.2.2 hT5 hm5 hF5 hG5
      clear k0 k1 k2 k3 k4 f0 f1 f2 f3 f4
      obtain ⟨k0, k1, k2, k3, k4, f0, f1, f2, f3, f4⟩ := hg5.five
      have Hnext := hide hnext
      clear hnext hg5 hT5 hm5 hF5 hG5 HS
      unfold aggD
      go_upto_region 16 with (fail)
      generalize ((((w5.setCell _ _).setCell _ _).setCell _ _).setCell _ _).setCell _ _ = w6 at Hnext ⊢
      clear k0 k1 k2 k3 k4 f0 f1 f2 f3 f4
      have hk60 : os.length ≤ 60 := Hn1.out
      obtain ⟨F6, A6, c6, bs6, Fs6, A7, c7, es7, G6, hT6, hg6, hrest⟩ := Hnext.out
      obtain ⟨k0, k1, k2, k3, k4, f0, f1, f2, f3, f4⟩ := Blk.five (show Blk w6 gb 31 #[.slice A7 D'.zs.length c7, .int .i64 D'.size, .int .i64 D'.op, .int .i64 (D'.n : Int), .bool D'.down] from hg6)
      have hok6 := playTo_ok Hok0.out.1 os (k + 1) (by omega)
      rw [Hsk.out] at hok6
      have hl6 : D'.zs.length = n := hok6.2.len.trans Hok0.out.2.2
      have Hsame := hide (same7_any hT6 (by have := Hz.out.2; omega) (fun x hx => by have := hok6.1.2 x hx; omega))
      clear hT6 hg6 hrest hok6 hl6
      go_wp2_with fail
      refine Hsame.out.mono ?_
      rintro e w7 ⟨rfl, hb7⟩
      have Hn7 := hide (Hnext.out.below hb7)
      clear hb7 Hsame k0 k1 k2 k3 k4 f0 f1 f2 f3 f4
      go_wp2_with fail
      go_roundw
      case rel => exact ⟨k + 1, by omega, by go_num, by rw [Hsk.out]; exact Hn7.out⟩
      case measure => simp [intOf]; omega
    · obtain rfl : k = os.length := by omega
      have Hr8 := hide HR.out.world
      go_wp2_with fail
      go_ret
      exact ⟨rfl, Hr8.out⟩
end Go.Proofs.Ytdinbhanekpjoaa
