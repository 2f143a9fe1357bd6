/-
  The walk of DeviceLimit: it answers true, and nothing that was there has turned.
-/
import Derived.Test.YtdinbhanekpjoaaRel7
import Derived.Test.YtdinbhanekpjoaaLimit7
namespace Go.Proofs.Ytdinbhanekpjoaa
open Go.RowKit

theorem sizeOp (o : OpV) : (Try.prog.info? 37).map (·.size) = some o.cells.length := by rw [OpV.length]; kernel_rfl
theorem sizeOpR (o : OpV) : (Try.prog.info? 37).map (·.size) = some o.cells.toArray.size := by rw [List.size_toArray]; exact sizeOp o
theorem OpV.one (o : OpV) : ∀ v ∈ o.cells, v.oneCell' = true := fun v hv => by
  unfold OpV.cells at hv
  simp only [List.mem_append, List.mem_cons, List.not_mem_nil, or_false] at hv
  rcases hv with ((rfl | rfl | rfl) | h) | rfl
  · rfl
  · rfl
  · rfl
  · exact o.s.one v h
  · rfl
theorem OpV.all (o : OpV) : o.cells.toArray.all (·.oneCell') = true := by
  rw [Array.all_eq_true']
  intro v hv
  exact o.one v (by simpa using hv)
def OpV.zero : OpV := ⟨0, 0, 0, Sec.zero, none, [], 0⟩
theorem range_op {w : World} {g : Nat} {t : TypeId} (o : OpV) (h : Blk w g t o.cells.toArray) : w.rangeAt g 0 o.cells := fun j v hv => by
  rw [h.cell, Nat.zero_add, List.getElem?_toArray, hv]
theorem made_ok (n : Nat) (size op : Int) : (Dv.made n size op).Ok 0 ∧ (Dv.made n size op).Lo ∧ (Dv.made n size op).zs.length = n := ⟨⟨Nat.le_refl _, fun x hx => by
  have := (List.mem_replicate.1 hx).2
  subst this
  exact ⟨by simp [Zn.new], by simp [Zn.new], by simp [Zn.new], rfl⟩⟩, fun x hx => by
  have := (List.mem_replicate.1 hx).2
  subst this
  simp [Zn.new], by simp [Dv.made]⟩
theorem playTo_lo {D : Dv} (h : D.Lo) (os : List OpV) : ∀ k, k ≤ os.length → (playTo D os k).Lo
  | 0, _ => by rw [playTo_zero]; exact h
  | k + 1, hk => by rw [playTo_succ D os k (by omega)]; exact Dv.play_lo (playTo_lo h os k (by omega)) _

set_option maxRecDepth 100000 in
set_option maxHeartbeats 4000000 in
theorem limit_walk (n : Nat) (size op : Int) (A1 : Option Addr) (cap1 : Nat) (os : List OpV) (w : World) (h1 : CameOps w A1 os) (hz1 : 1 ≤ n) (hz2 : n ≤ 40) (hs1 : 1 ≤ size) (hs2 : size ≤ 64) (ho1 : 1 ≤ op) (ho2 : op ≤ 64) (hn1 : os.length ≤ 60) :
    Calls Try.prog 3 #[.int .i64 (n : Int), .int .i64 size, .int .i64 op, .slice A1 os.length cap1] w fun e w' => e = .returned (.bool true) ∧ Below w.heap.size w w' := by
  have h1' := hide h1
  have Hr : Hid (∀ w, Calls Try.prog 14 #[.int .i64 (n : Int), .int .i64 size, .int .i64 op] w fun e w' => e = .returned (.bool true) ∧ w = w') := hide (fun w => by
    have := right_any (n : Int) size op w
    rwa [show rightB (n : Int) size op = true by simp [rightB, hs1, hs2, ho1, ho2]; omega] at this)
  have Hnew := hide (fun w => DM.new_any (n : Int) size op w (by omega) (by omega) hs1 hs2 ho1 ho2)
  have Href := hide (fun w => R7.new_any (n : Int) size op w (by omega) (by omega))
  have d1 : decide ((40 : Int) < (n : Int)) = false := decide_eq_false (by omega)
  have d2 : decide (40 < n) = false := decide_eq_false (by omega)
  have d3 : decide (60 < os.length) = false := decide_eq_false (by omega)
  have d4 : decide ((60 : Int) < (os.length : Int)) = false := decide_eq_false (by omega)
  have Hn1 := hide hn1
  have Hz := hide (And.intro hz1 hz2)
  clear h1 hs1 hs2 ho1 ho2 hn1 hz1 hz2
  go_enter Try.func3, Try.ntmps3
  go_wp2_with fail
  refine (anchor7_any _).mono ?_
  rintro e w1 ⟨rfl, hb1⟩
  go_wp2_with fail
  refine (Hr.out _).mono ?_
  rintro e w' ⟨rfl, rfl⟩
  go_wp2_with fail
  refine (Hnew.out _).mono ?_
  rintro e w2 ⟨rfl, hlaid⟩
  have Hlaid := hide hlaid
  have Hb1 := hide hb1
  clear hlaid hb1
  go_wp2_with fail
  refine (Href.out _).mono ?_
  rintro e w3 ⟨A', c', es, rfl, hr3, hb3⟩
  have hrel0 := hide (Rel7.start Hb1.out Hlaid.out hr3 hb3)
  rw [Int.toNat_natCast] at hrel0 ⊢
  have Hok0 := hide (made_ok n size op)
  have hop : Hid ((Dv.made n size op).op = op) := hide rfl
  generalize Dv.made n size op = D0 at hrel0 Hok0 hop ⊢
  clear hr3 hb3 Hlaid Hnew Href Hr
  go_wp2_with fail
  obtain ⟨wI, hwI⟩ : ∃ wI, wI = w3.alloc (.cells #[.slice A' D0.zs.length c', .int .i64 D0.size, .int .i64 D0.op, .int .i64 (D0.n : Int), .bool D0.down] 31) := ⟨_, rfl⟩
  have hrelI : Hid (Rel7 w w3.heap.size w1.heap.size D0 wI) := by rw [hwI]; exact hrel0
  rw [← hwI]
  clear hwI hrel0
  generalize w3.heap.size = gb at hrelI ⊢
  generalize w1.heap.size = d at hrelI ⊢
  go_loopw [53] (fun i wr => ∃ k : Nat, k ≤ os.length ∧ i = .int .i64 k ∧ Rel7 w gb d (playTo D0 os k) wr) (fun i _ => os.length - (intOf i).toNat)
  case atStart => exact ⟨0, Nat.zero_le _, rfl, by rw [playTo_zero]; exact hrelI.out⟩
  case round =>
    obtain ⟨k, hk, rfl, hR⟩ := hrel
    have HR := hide hR
    have Hw := hide hR.world
    obtain ⟨F, A, c, bs, Fs, A2, c2, es2, G, hT, hg, hFg, hGg, hF, hG, hbel, hgw⟩ := hR
    obtain ⟨hOk, hLike⟩ := playTo_ok Hok0.out.1 os k hk
    have hLo := playTo_lo Hok0.out.2.1 os k hk
    have hlen : (playTo D0 os k).zs.length = n := hLike.len.trans Hok0.out.2.2
    have hopk : (playTo D0 os k).op = op := hLike.op.trans hop.out
    have Hs := hide (fun h : k < os.length => playTo_succ D0 os k h)
    generalize playTo D0 os k = D at hOk hLike hLo hlen hopk hT hg HR Hs
    have HOk := hide hOk
    have HLo := hide hLo
    have Hlen := hide hlen
    have Hopk := hide hopk
    have HT := hide hT
    have Hg := hide hg
    have HF := hide (And.intro hFg (And.intro hGg (And.intro hF (And.intro hG hgw))))
    have Hbel := hide hbel
    clear hOk hLike hLo hlen hopk hT hg hFg hGg hF hG hbel hgw
    by_cases hlt : k < os.length
    · obtain ⟨ab, off, rfl, hab, hck⟩ := (h1'.out.below Hw.out).2 (by omega)
      have Hck := hide (hck k hlt)
      have HZ := hide (Blk.new wr 37 OpV.zero.cells.toArray)
      have hba : Below wr.heap.size wr ((wr.alloc (.cells OpV.zero.cells.toArray 37)).setRow wr.heap.size os[k].cells.toArray) := below_setRow ((Below.refl _ wr).alloc (Nat.le_refl _) _) (Nat.le_refl _) _
      have hko := HZ.out.setRow os[k].cells.toArray
      clear hck
      go_upto_region 12 with (first | ((with_reducible refine wpList_load_mid ?g1 37 (.tmp 55) ?o1 ab (off + k * 68) ?x1 os[k].cells ?d1 ?r1 ?u1 ?f1 ?i1 ?_); (case g1 => exact rfl); (case o1 => exact rfl); (case x1 => exact rfl); (case r1 => exact Hck.out); (case u1 => exact Try.underlying37); (case f1 => exact rfl); (case i1 => exact sizeOp _)) | ((with_reducible refine wpList_store_row ?g2 37 (.tmp 13) (.tmp 56) ?o2 wr.heap.size os[k].cells.toArray ?x2 ?y2 37 OpV.zero.cells.toArray ?k2 ?s2 ?l2 ?a2 ?_); (case g2 => exact rfl); (case o2 => exact rfl); (case x2 => exact rfl); (case y2 => exact rfl); (case k2 => exact HZ.out); (case s2 => exact sizeOpR _); (case l2 => simp [OpV.length]); (case a2 => exact OpV.all _)))
      generalize hWA : World.setRow (World.alloc wr _) _ _ = wa
      have hWA' : (wr.alloc (.cells OpV.zero.cells.toArray 37)).setRow wr.heap.size os[k].cells.toArray = wa := hWA
      rw [hWA'] at hba hko
      clear hWA hWA' HZ Hck
      have HTa := hide (HT.out.below hba)
      have Hba := hide hba
      have KO := hide hko
      have HB : Hid (wr.heap.size < wa.heap.size) := hide hko.lt
      have Hbx := hide HT.out.lt
      generalize hbx : wr.heap.size = bx at *
      clear hba hko
      go_wp2_with fail
      go_loop [14, 58] (fun v i => ∃ j : Nat, j ≤ n ∧ i = .int .i64 j ∧ v = .int .i64 (D.countTo j : Int)) (fun _ i => n - (intOf i).toNat)
      case atStart => exact ⟨0, by omega, rfl, by rw [Dv.countTo_zero]; rfl⟩
      case round =>
        obtain ⟨j, hj, rfl, rfl⟩ := hrel
        have hcl := D.countTo_le j
        by_cases hjn : j < n
        · have hj2 : j < D.zs.length := by have := Hlen.out; omega
          have Hsn := hide (D.countTo_succ j hj2)
          have Hst := hide (DM.state_any HTa.out.dev (j : Int))
          rw [Dv.stateOf_in hj2] at Hst
          have hl40 : D.zs.length ≤ 40 := by have := Hlen.out; have := Hz.out.2; omega
          by_cases hs : D.zs[j].state = 1
          · have es : (D.zs[j].state == 1) = true := beq_iff_eq.2 hs
            have Hs1 := hide hs
            clear hs
            go_wp2_with fail
            refine Hst.out.mono ?_
            rintro e w' ⟨rfl, rfl⟩
            go_wp2_with fail
            go_round
            case rel => exact ⟨j + 1, by omega, by go_num, by rw [Hsn.out, if_pos Hs1.out]; go_num⟩
            case measure => simp [intOf]; omega
          · have es : (D.zs[j].state == 1) = false := beq_eq_false_iff_ne.2 hs
            have Hs1 := hide hs
            clear hs
            go_wp2_with fail
            refine Hst.out.mono ?_
            rintro e w' ⟨rfl, rfl⟩
            go_wp2_with fail
            go_round
            case rel => exact ⟨j + 1, by omega, by go_num, by rw [Hsn.out, if_neg Hs1.out]; rfl⟩
            case measure => simp [intOf]; omega
        · obtain rfl : n = j := by omega
          have H1 : D.countTo n = D.opened := by rw [← Hlen.out, Dv.countTo_all]
          have H1c := hide H1
          rw [H1]
          clear H1
          subst hbx
          have hga : Blk wa gb 31 (cellsD A2 c2 D) := (Hba.out.block _ Hg.out.lt).trans Hg.out
          obtain ⟨k0, k1, k2, k3, k4, f0, f1, f2, f3, f4⟩ := Blk.five (show Blk wa gb 31 #[.slice A2 D.zs.length c2, .int .i64 D.size, .int .i64 D.op, .int .i64 (D.n : Int), .bool D.down] from hga)
          have hmem : os[k] ∈ os := List.getElem_mem hlt
          have hci := (h1'.out.1 _ hmem)
          have hwa : Below w.heap.size w wa := Hw.out.trans (Hba.out.mono Hw.out.size)
          have hcw : DM.CameInts wa os[k].K os[k].keep := hci.1.mods (Mods.of_below hwa (fun _ => False)) (fun _ _ _ _ h => h)
          have hst := step_any HTa.out HOk.out (by have := Hn1.out; omega) (by have := Hlen.out; have := Hz.out.2; omega) os[k] hcw (fun h0 b off e hf => by
            obtain ⟨b', off', e', hb', _⟩ := hci.1 h0
            rw [e] at e'
            have := HF.out.2.2.1 b hf
            simp only [Option.some.injEq, Addr.mk.injEq] at e'
            omega) hci.2
          have HS := hide hst
          have Hga := hide hga
          have Hplay := hide (Dv.play_ok HOk.out os[k])
          have Hlimit := hide (fun h7 : ¬ os[k].kind = 7 => Dv.play_limit HLo.out ⟨_, HOk.out⟩ h7)
          clear hga hmem hci hwa hcw hst
          go_wp2_with ((with_reducible refine wpList_load_mid ?g2 37 (.tmp 13) ?o2 wr.heap.size (0) ?x2 os[k].cells ?d2 ?r2 ?u2 ?f2 ?i2 ?_); (case g2 => exact rfl); (case o2 => exact rfl); (case x2 => exact rfl); (case r2 => exact range_op _ KO.out); (case u2 => exact Try.underlying37); (case f2 => exact rfl); (case i2 => exact sizeOp _))
          refine HS.out.mono ?_
          rintro e w5 ⟨A3, c3, es3, rfl, F', Fs', G', hT5, hm5, hF5, hG5⟩
          have Hsk := hide (Hs.out hlt)
          generalize D.play os[k] = D' at hT5 Hplay Hlimit Hsk ⊢
          have hg5 : Blk w5 gb 31 #[.slice A2 D.zs.length c2, .int .i64 D.size, .int .i64 D.op, .int .i64 (D.n : Int), .bool D.down] := Hga.out.mods hm5 HF.out.1
          have ko5 := KO.out.mods hm5 (fun hf => by have := Hbx.out _ hf; omega)
          have hnext := Rel7.next Hbel.out Hba.out hg5 HF.out.1 HF.out.2.1 HF.out.2.2.1 HF.out.2.2.2.1 Hg.out.lt HF.out.2.2.2.2 hT5 hm5 hF5 hG5
          have ko6 := ko5.mods (Mods.set5 (fun b => b = gb) w5 gb (.slice A3 D'.zs.length c3) (.int .i64 D'.size) (.int .i64 D'.op) (.int .i64 (D'.n : Int)) (.bool D'.down) rfl) (by have := Hg.out.lt; omega)
          clear k0 k1 k2 k3 k4 f0 f1 f2 f3 f4
          obtain ⟨k0, k1, k2, k3, k4, f0, f1, f2, f3, f4⟩ := hg5.five
          have Hnext := hide hnext
          have KO6 := hide ko6
          have Hl5 : Hid (D'.zs.length = n) := hide (Hplay.out.2.len.trans Hlen.out)
          clear hnext ko6 ko5 hg5 hT5 hm5 hF5 hG5 HS
          unfold aggD
          go_upto_region 20 with (fail)
          generalize ((((w5.setCell _ _).setCell _ _).setCell _ _).setCell _ _).setCell _ _ = w6 at Hnext KO6 ⊢
          clear k0 k1 k2 k3 k4 f0 f1 f2 f3 f4
          obtain ⟨o0, -⟩ := OpV.at_ KO6.out
          obtain ⟨F6, A6, c6, bs6, Fs6, A7, c7, es7, G6, hT6, -⟩ := Hnext.out
          have HT6 := hide hT6
          clear hT6
          go_wp2_with fail
          go_loop [16, 76] (fun v i => ∃ j : Nat, j ≤ n ∧ i = .int .i64 j ∧ v = .int .i64 (D'.countTo j : Int)) (fun _ i => n - (intOf i).toNat)
          case atStart => exact ⟨0, by omega, rfl, by rw [Dv.countTo_zero]; rfl⟩
          case round =>
            obtain ⟨j, hj, rfl, rfl⟩ := hrel
            have hcl := D'.countTo_le j
            by_cases hjn : j < n
            · have hj2 : j < D'.zs.length := by have := Hl5.out; omega
              have Hsn := hide (D'.countTo_succ j hj2)
              have Hst := hide (DM.state_any HT6.out.dev (j : Int))
              rw [Dv.stateOf_in hj2] at Hst
              have hl40 : D'.zs.length ≤ 40 := by have := Hl5.out; have := Hz.out.2; omega
              by_cases hs : D'.zs[j].state = 1
              · have es : (D'.zs[j].state == 1) = true := beq_iff_eq.2 hs
                have Hs1 := hide hs
                clear hs
                go_wp2_with fail
                refine Hst.out.mono ?_
                rintro e w' ⟨rfl, rfl⟩
                go_wp2_with fail
                go_round
                case rel => exact ⟨j + 1, by omega, by go_num, by rw [Hsn.out, if_pos Hs1.out]; go_num⟩
                case measure => simp [intOf]; omega
              · have es : (D'.zs[j].state == 1) = false := beq_eq_false_iff_ne.2 hs
                have Hs1 := hide hs
                clear hs
                go_wp2_with fail
                refine Hst.out.mono ?_
                rintro e w' ⟨rfl, rfl⟩
                go_wp2_with fail
                go_round
                case rel => exact ⟨j + 1, by omega, by go_num, by rw [Hsn.out, if_neg Hs1.out]; rfl⟩
                case measure => simp [intOf]; omega
            · obtain rfl : n = j := by omega
              have H2 : D'.countTo n = D'.opened := by rw [← Hl5.out, Dv.countTo_all]
              have H2c := hide H2
              rw [H2]
              clear H2
              have hop2 : D.op = op := Hopk.out
              have hk60 : os.length ≤ 60 := Hn1.out
              by_cases h7 : os[k].kind = 7
              · have e7 : (os[k].kind != 7) = false := by simp [h7]
                clear h7
                go_wp2_with fail
                go_roundw
                case rel => exact ⟨k + 1, by omega, by go_num, by rw [Hsk.out]; exact Hnext.out⟩
                case measure => simp [intOf]; omega
              · have e7 : (os[k].kind != 7) = true := by simpa using h7
                have hlim := Hlimit.out h7
                by_cases hm : op < (D'.opened : Int)
                · have em : decide (op < (D'.opened : Int)) = true := decide_eq_true hm
                  have en : decide (D.opened < D'.opened) = false := decide_eq_false (by omega)
                  clear hlim h7 hm hop2
                  go_wp2_with fail
                  go_roundw
                  case rel => exact ⟨k + 1, by omega, by go_num, by rw [Hsk.out]; exact Hnext.out⟩
                  case measure => simp [intOf]; omega
                · have em : decide (op < (D'.opened : Int)) = false := decide_eq_false hm
                  clear hlim h7 hm hop2
                  go_wp2_with fail
                  go_roundw
                  case rel => exact ⟨k + 1, by omega, by go_num, by rw [Hsk.out]; exact Hnext.out⟩
                  case measure => simp [intOf]; omega
    · obtain rfl : k = os.length := by omega
      go_wp2_with fail
      go_ret
      exact ⟨rfl, Hw.out⟩
end Go.Proofs.Ytdinbhanekpjoaa
