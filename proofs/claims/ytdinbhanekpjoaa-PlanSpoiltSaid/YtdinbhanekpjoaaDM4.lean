/-
  A device's Read and Append.
-/
import Derived.Test.YtdinbhanekpjoaaDM3
namespace Go.Proofs.Ytdinbhanekpjoaa.DM
open Go.RowKit
section
variable {w : World} {d : Nat} {D : Dv} {F : Nat → Prop} {A : Option Addr} {c : Nat} {bs : List Nat} {Fs : Nat → Nat → Prop}
theorem DDid.result {W1 w2 : World} {D' : Dv} (h : DDid W1 w2 d D' F A c bs) (hB : Below w.heap.size w W1) {g : Nat} (hgl : w.heap.size ≤ g) (hg1 : g < W1.heap.size) (hgF : ¬ F g) (cs : Array Value) : DDid w (w2.setRow g cs) d D' F A c bs := by
  obtain ⟨F2, Fs2, h2, hm, hF2⟩ := h
  have hs := hB.size
  have hm' : Mods (fun k => k = g) w2 (w2.setRow g cs) := (Mods.refl (fun k => k = g) w2).setRow (g := g) (.inl rfl) cs
  refine ⟨F2, Fs2, h2.mods hm' (fun k hk e => ?_), ((Mods.of_below hB F).trans hm (fun _ _ h => h)).setRow (.inr hgl) cs, fun j hj => (hF2 j hj).imp id (fun h => Nat.le_trans hs h)⟩
  subst e
  rcases hF2 k hk with h | h
  · exact hgF h
  · omega

set_option maxRecDepth 100000 in
set_option maxHeartbeats 400000 in
theorem read_any (h : DevIs w d D F A c bs Fs) (hn : D.n < 65536) (hL : ∀ x ∈ D.zs, x.L.length < 65536) (z off : Int) : Calls Try.prog 28 #[.pointer (some ⟨d, 0, none⟩), .int .i64 z, .int .i64 off] w fun e w' =>
    e = .returned (.tuple #[(D.read z off).2.1.agg, .int .i64 (D.read z off).2.2]) ∧ DDid w w' d (D.read z off).1 F A c bs := by
  have hB := (Below.refl w.heap.size w).alloc (Nat.le_refl _) (.cells Sec.zero.cs.toArray 34)
  have hP : Blk (w.alloc (.cells Sec.zero.cs.toArray 34)) w.heap.size 34 Sec.zero.cs.toArray := Blk.new _ _ _
  have hb := h.below hB
  have hdl : d < w.heap.size := h.lt d h.inF.1
  have hFl := h.lt
  by_cases h0 : (D.begin_ z).2 = 0
  · obtain ⟨hd, k, rfl, hk⟩ := Dv.begin_zero h0
    have hfin := hide (Dv.read_in off hd hk)
    have Hbe := hide (Dv.begin_in k hd hk)
    have HL := hide (hL _ (List.getElem_mem hk))
    have HB := hide hB
    have HP := hide hP
    have Hbd := hide (begin_any hb hn (k : Int))
    have HF := hide hFl
    clear h0 hd h hL hP hB hb hFl
    go_enter Try.func28, Try.ntmps28
    go_wp2_with fail
    generalize hW : w.alloc _ = W1
    have hW' : w.alloc (.cells Sec.zero.cs.toArray 34) = W1 := hW
    rw [hW'] at HB HP Hbd
    clear hW hW'
    refine Hbd.out.mono ?_
    rw [Hbe.out]
    rintro e w1 ⟨rfl, F1, Fs1, h1, hm1, hF1⟩
    have hk1 : k < D.tick.zs.length := hk
    obtain ⟨g, rfl, hlc, hk', c0, cg, hz⟩ := ready h1 hk1
    have Hz := hide (ZD.read_any D.zs[k] off _ w1 _ hz HL.out)
    have H1 := hide h1
    have HP1 : Hid (Blk w1 w.heap.size 34 Sec.zero.cs.toArray) := hide (HP.out.mods hm1 (fun hk => by have := HF.out _ hk; omega))
    have hlen : D.tick.zs.length = D.zs.length := rfl
    rw [hlen] at c0 hlc
    clear h1 hz hlen
    go_wp2_with fail
    refine Hz.out.mono ?_
    rintro e w2 ⟨rfl, hb2⟩
    have HP2 : Hid (Blk w2 w.heap.size 34 Sec.zero.cs.toArray) := hide ((hb2.block _ HP1.out.lt).trans HP1.out)
    have Hb2 := hide hb2
    clear hb2
    go_wp2_with (refine wpList_store_row rfl 34 (.tmp 6) (.tmp 25) rfl w.heap.size (D.zs[k].read Sec.zero off).1.cs.toArray rfl rfl 34 Sec.zero.cs.toArray HP2.out (ZD.sizeRow _) (by simp [Sec.len]) (sec_all _) ?_)
    refine bodyPost_ret (v := .tuple #[(D.zs[k].read Sec.zero off).1.agg, .int .i64 (D.zs[k].read Sec.zero off).2]) ?_ rfl ?_
    · exact results_sec2 (fn := Try.f28) (p := 6) (u := 7) rfl Try.underlying34 ZD.sizeS _ _ _ rfl rfl (HP2.out.setRow _)
    · rw [hfin.out]
      exact ⟨rfl, DDid.result (DDid.join hm1 hF1 (H1.out.did Hb2.out)) HB.out (Nat.le_refl _) HP.out.lt (fun hk => by have := HF.out _ hk; omega) _⟩
  · have hfin := hide (Dv.read_no off h0)
    have e0 : ((D.begin_ z).2 != 0) = true := by simpa using h0
    have HB := hide hB
    have HP := hide hP
    have Hbd := hide (begin_any hb hn z)
    have HF := hide hFl
    clear h0 h hL hP hB hb hFl
    go_enter Try.func28, Try.ntmps28
    go_wp2_with fail
    generalize hW : w.alloc _ = W1
    have hW' : w.alloc (.cells Sec.zero.cs.toArray 34) = W1 := hW
    rw [hW'] at HB HP Hbd
    clear hW hW'
    refine Hbd.out.mono ?_
    rintro e w1 ⟨rfl, hd1⟩
    have HP1 : Hid (Blk w1 w.heap.size 34 Sec.zero.cs.toArray) := by
      obtain ⟨_, _, _, hm1, _⟩ := hd1
      exact hide (HP.out.mods hm1 (fun hk => by have := HF.out _ hk; omega))
    have Hd1 := hide hd1
    clear hd1
    go_wp2_with (refine wpList_store_row rfl 34 (.tmp 6) (.tmp 14) rfl w.heap.size Sec.zero.cs.toArray rfl rfl 34 Sec.zero.cs.toArray HP1.out (ZD.sizeRow _) (by simp [Sec.len]) (sec_all _) ?_)
    refine bodyPost_ret (v := .tuple #[Sec.zero.agg, .int .i64 (D.begin_ z).2]) ?_ rfl ?_
    · exact results_sec2 (fn := Try.f28) (p := 6) (u := 7) rfl Try.underlying34 ZD.sizeS _ _ _ rfl rfl (HP1.out.setRow _)
    · rw [hfin.out]
      exact ⟨rfl, DDid.result Hd1.out HB.out (Nat.le_refl _) HP.out.lt (fun hk => by have := HF.out _ hk; omega) _⟩
end
end Go.Proofs.Ytdinbhanekpjoaa.DM
