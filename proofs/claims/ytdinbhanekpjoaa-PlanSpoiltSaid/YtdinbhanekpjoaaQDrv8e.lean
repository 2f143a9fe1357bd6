/-
  A drive's commands: begin, Append, Read, Reset, Finish, Flush.
-/
import Derived.Test.YtdinbhanekpjoaaQD
namespace Go.Proofs.Ytdinbhanekpjoaa
open Go.RowKit
/-- A call's result lies in a block of its own. -/
theorem DrvDid.result {w W1 w2 : World} {q d : Nat} {X : Dr} {F : Nat → Prop} (h : DrvDid W1 w2 q d X F) (hB : Below w.heap.size w W1) {g : Nat} (hgl : w.heap.size ≤ g) (hg1 : g < W1.heap.size) (hgF : ¬ F g) (cs : Array Value) : DrvDid w (w2.setRow g cs) q d X F := by
  obtain ⟨F2, FD2, A2, c2, bs2, Fs2, mb2, n2, Ac2, cc2, Ah2, ch2, h2, hm2, hF2⟩ := h
  have hs := hB.size
  have hs2 := hm2.size
  have hmS : Mods (fun k => k = g) w2 (w2.setRow g cs) := (Mods.refl (fun k => k = g) w2).setRow (g := g) (.inl rfl) cs
  refine ⟨F2, FD2, A2, c2, bs2, Fs2, mb2, n2, Ac2, cc2, Ah2, ch2, h2.mods hmS (fun k hk e => ?_), ((Mods.of_below hB F).trans hm2 (fun _ _ h => h)).trans hmS (fun k hk e => ?_), fun k hk => (hF2 k hk).imp id (fun h => Nat.le_trans hs h)⟩
  · subst e
    rcases hF2 _ hk with h | h
    · exact hgF h
    · omega
  · subst e; omega
namespace DV
section
variable {w : World} {q d : Nat} {X : Dr} {F FD : Nat → Prop} {A : Option Addr} {c : Nat} {bs : List Nat} {Fs : Nat → Nat → Prop} {mb n m : Nat} {Ac : Option Addr} {cc : Nat} {Ah : Option Addr} {ch : Nat}
set_option maxHeartbeats 1000000 in
theorem begin_any (h : DrvIs w q d X F FD A c bs Fs mb n Ac cc Ah ch) (hb : X.Bd) (z : Int) : Calls Try.prog 92 #[.pointer (some ⟨q, 0, none⟩), .int .i64 z] w fun en w' => en = .returned (.tuple #[]) ∧ DrvDid w w' q d (X.begin_ z) F := by
  obtain ⟨c0, -⟩ := h.cells
  have Hdue := hide (due_any h hb)
  have Hz := hide (DM.zones_any h.dev)
  have Hsame := hide h.same
  clear h hb
  by_cases h0 : 0 ≤ z
  · have e0 : decide (0 ≤ z) = true := decide_eq_true h0
    by_cases h1 : z < (X.D.zs.length : Int)
    · have e1 : decide (z < (X.D.zs.length : Int)) = true := decide_eq_true h1
      have Hfin := hide (show X.begin_ z = X.due by rw [Dr.begin_, if_pos ⟨h0, h1⟩])
      clear h0 h1
      go_enter Try.func92, Try.ntmps92
      go_wp2_with fail
      refine Hz.out.mono ?_
      rintro en w' ⟨rfl, rfl⟩
      go_wp2_with fail
      refine Hdue.out.mono ?_
      rintro en w' ⟨rfl, hd⟩
      have Hd := hide hd
      clear hd
      go_wp2_with fail
      go_end0
      refine ⟨rfl, ?_⟩
      rw [Hfin.out]
      exact Hd.out
    · have e1 : decide (z < (X.D.zs.length : Int)) = false := decide_eq_false h1
      have Hfin := hide (show X.begin_ z = X by rw [Dr.begin_, if_neg (fun h => h1 h.2)])
      clear h0 h1
      go_enter Try.func92, Try.ntmps92
      go_wp2_with fail
      refine Hz.out.mono ?_
      rintro en w' ⟨rfl, rfl⟩
      go_wp2_with fail
      go_end0
      refine ⟨rfl, ?_⟩
      rw [Hfin.out]
      exact Hsame.out
  · have e0 : decide (0 ≤ z) = false := decide_eq_false h0
    have Hfin := hide (show X.begin_ z = X by rw [Dr.begin_, if_neg (fun h => h0 h.1)])
    clear h0
    go_enter Try.func92, Try.ntmps92
    go_wp2_with fail
    go_end0
    refine ⟨rfl, ?_⟩
    rw [Hfin.out]
    exact Hsame.out
set_option maxRecDepth 100000 in
set_option maxHeartbeats 2000000 in
theorem finish_any (h : DrvIs w q d X F FD A c bs Fs mb n Ac cc Ah ch) (hb : X.Bd) (hO : X.D.Ok m) (hm : m < 65000) (hl : X.D.zs.length < 65536) (z : Int) : Calls Try.prog 75 #[.pointer (some ⟨q, 0, none⟩), .int .i64 z] w fun en w' => en = .returned (.int .i64 (X.finish z).2) ∧ DrvDid w w' q d (X.finish z).1 F := by
  obtain ⟨hbY, hnY, hlY, hOY⟩ := Dr.begin_keeps hb hO z
  have Hbe := hide (begin_any h hb z)
  have HY := hide (And.intro hbY (And.intro hlY hOY))
  have Hm := hide (And.intro hm hl)
  unfold Dr.finish
  generalize X.begin_ z = Y at Hbe HY ⊢
  clear h hb hO hm hl hbY hnY hlY hOY
  go_enter Try.func75, Try.ntmps75
  go_wp2_with fail
  refine Hbe.out.mono ?_
  rintro en w1 ⟨rfl, F1, FD1, A1, c1, bs1, Fs1, mb1, n1, Ac1, cc1, Ah1, ch1, h1, hm1, hF1⟩
  obtain ⟨c0, -⟩ := h1.cells
  have Hf := hide (DM.finish_any h1.dev (by have := HY.out.2.2.n; have := Hm.out.1; omega) z)
  have H1 := hide h1
  have Hm1 := hide hm1
  have HF1 := hide hF1
  clear h1 hm1 hF1 Hbe
  go_wp2_with fail
  refine Hf.out.mono ?_
  rintro en w2 ⟨rfl, hd⟩
  have Hd := hide hd
  clear hd Hf
  go_wp2_with fail
  go_ret
  exact ⟨rfl, DrvDid.join Hm1.out HF1.out (H1.out.devStep Hd.out)⟩
set_option maxRecDepth 100000 in
set_option maxHeartbeats 2000000 in
theorem flush_any (h : DrvIs w q d X F FD A c bs Fs mb n Ac cc Ah ch) (hb : X.Bd) (hO : X.D.Ok m) (hm : m < 65000) (hl : X.D.zs.length < 65536)  : Calls Try.prog 76 #[.pointer (some ⟨q, 0, none⟩)] w fun en w' => en = .returned (.int .i64 X.flush.2) ∧ DrvDid w w' q d X.flush.1 F := by
  obtain ⟨hbY, hnY, hlY, hOY⟩ := Dr.due_keeps hb hO
  have Hbe := hide (due_any h hb)
  have HY := hide (And.intro hbY (And.intro hlY hOY))
  have Hm := hide (And.intro hm hl)
  unfold Dr.flush
  generalize X.due = Y at Hbe HY ⊢
  clear h hb hO hm hl hbY hnY hlY hOY
  go_enter Try.func76, Try.ntmps76
  go_wp2_with fail
  refine Hbe.out.mono ?_
  rintro en w1 ⟨rfl, F1, FD1, A1, c1, bs1, Fs1, mb1, n1, Ac1, cc1, Ah1, ch1, h1, hm1, hF1⟩
  obtain ⟨c0, -⟩ := h1.cells
  have Hf := hide (DM.flush_any h1.dev (by have := HY.out.2.2.n; have := Hm.out.1; omega) (by have := HY.out.2.1.len; have := Hm.out.2; omega))
  have H1 := hide h1
  have Hm1 := hide hm1
  have HF1 := hide hF1
  clear h1 hm1 hF1 Hbe
  go_wp2_with fail
  refine Hf.out.mono ?_
  rintro en w2 ⟨rfl, hd⟩
  have Hd := hide hd
  clear hd Hf
  go_wp2_with fail
  go_ret
  exact ⟨rfl, DrvDid.join Hm1.out HF1.out (H1.out.devStep Hd.out)⟩
set_option maxRecDepth 100000 in
set_option maxHeartbeats 2000000 in
theorem reset_any (h : DrvIs w q d X F FD A c bs Fs mb n Ac cc Ah ch) (hb : X.Bd) (hO : X.D.Ok m) (hm : m < 65000) (hl : X.D.zs.length < 65536) (z : Int) (hz : fits z) (hsz : X.D.size ≤ 64) : Calls Try.prog 74 #[.pointer (some ⟨q, 0, none⟩), .int .i64 z] w fun en w' => en = .returned (.int .i64 (X.reset z).2) ∧ DrvDid w w' q d (X.reset z).1 F := by
  obtain ⟨hbY, hnY, hlY, hOY⟩ := Dr.begin_keeps hb hO z
  have Hbe := hide (begin_any h hb z)
  have HY := hide (And.intro hbY (And.intro hlY hOY))
  have Hm := hide (And.intro hm hl)
  have Hz := hide hz
  have Hsz := hide hsz
  unfold Dr.reset
  generalize X.begin_ z = Y at Hbe HY ⊢
  clear h hb hO hm hl hbY hnY hlY hOY hz hsz
  dsimp only
  by_cases hc : (Y.D.reset z).2 = 0
  · rw [if_pos hc, hc]
    go_enter Try.func74, Try.ntmps74
    go_wp2_with fail
    refine Hbe.out.mono ?_
    rintro en w1 ⟨rfl, F1, FD1, A1, c1, bs1, Fs1, mb1, n1, Ac1, cc1, Ah1, ch1, h1, hm1, hF1⟩
    obtain ⟨c0, -⟩ := h1.cells
    have hf := DM.reset_any h1.dev (by have := HY.out.2.2.n; have := Hm.out.1; omega) z
    rw [hc] at hf
    have Hf := hide hf
    have H1 := hide h1
    have Hm1 := hide hm1
    have HF1 := hide hF1
    clear h1 hm1 hF1 Hbe hf hc
    go_wp2_with fail
    refine Hf.out.mono ?_
    rintro en w2 ⟨rfl, hd⟩
    obtain ⟨F2, FD2, Fs2, h2, hm2, hF2⟩ := H1.out.devTurn hd
    have hfo := forget_any h2 z 0 Hz.out (by omega) (by omega) (by have := HY.out.2.1.size; have := Hsz.out; show (Y.D.reset z).1.size ≤ 64; rw [(Dv.reset_ok HY.out.2.2 z).2.size]; omega)
    have Hfo := hide hfo
    have Hm2 := hide hm2
    have HF2 := hide hF2
    clear hd Hf h2 hm2 hF2 hfo
    go_wp2_with fail
    refine Hfo.out.mono ?_
    rintro en w3 ⟨rfl, hd⟩
    have Hd := hide hd
    clear hd Hfo
    go_wp2_with fail
    go_ret
    refine ⟨rfl, ?_⟩
    have h3 := DrvDid.join Hm1.out HF1.out (DrvDid.join Hm2.out HF2.out Hd.out)
    rwa [(Dv.reset_ok HY.out.2.2 z).2.size] at h3
  · rw [if_neg hc]
    obtain ⟨code, hcode⟩ : ∃ code, code = (Y.D.reset z).2 := ⟨_, rfl⟩
    rw [← hcode] at hc ⊢
    have hcb : (code == 0) = false := beq_eq_false_iff_ne.2 hc
    go_enter Try.func74, Try.ntmps74
    go_wp2_with fail
    refine Hbe.out.mono ?_
    rintro en w1 ⟨rfl, F1, FD1, A1, c1, bs1, Fs1, mb1, n1, Ac1, cc1, Ah1, ch1, h1, hm1, hF1⟩
    obtain ⟨c0, -⟩ := h1.cells
    have hf := DM.reset_any h1.dev (by have := HY.out.2.2.n; have := Hm.out.1; omega) z
    rw [← hcode] at hf
    have Hf := hide hf
    have H1 := hide h1
    have Hm1 := hide hm1
    have HF1 := hide hF1
    clear h1 hm1 hF1 Hbe hf hc hcode
    go_wp2_with fail
    refine Hf.out.mono ?_
    rintro en w2 ⟨rfl, hd⟩
    have Hd := hide hd
    clear hd Hf
    go_wp2_with fail
    go_ret
    exact ⟨rfl, DrvDid.join Hm1.out HF1.out (H1.out.devStep Hd.out)⟩
set_option maxRecDepth 100000 in
set_option maxHeartbeats 2000000 in
theorem read_any (h : DrvIs w q d X F FD A c bs Fs mb n Ac cc Ah ch) (hb : X.Bd) (hO : X.D.Ok m) (hm : m < 65000) (hl : X.D.zs.length < 65536) (z off : Int) : Calls Try.prog 73 #[.pointer (some ⟨q, 0, none⟩), .int .i64 z, .int .i64 off] w fun en w' => en = .returned (.tuple #[(X.read z off).2.1.agg, .int .i64 (X.read z off).2.2]) ∧ DrvDid w w' q d (X.read z off).1 F := by
  have hb1 : Below w.heap.size w (w.alloc (.cells Sec.zero.cs.toArray 34)) := (Below.refl _ w).alloc (Nat.le_refl _) _
  have ks := Blk.new w 34 Sec.zero.cs.toArray
  obtain ⟨hbY, hnY, hlY, hOY⟩ := Dr.begin_keeps hb hO z
  have Hbe := hide (begin_any (h.below hb1) hb z)
  have HY := hide (And.intro hbY (And.intro hlY hOY))
  have Hm := hide (And.intro hm hl)
  have Hlt := hide h.lt
  unfold Dr.read
  generalize X.begin_ z = Y at Hbe HY ⊢
  clear h hb hO hm hl hbY hnY hlY hOY
  go_enter Try.func73, Try.ntmps73
  go_wp2_with fail
  refine Hbe.out.mono ?_
  rintro en w1 ⟨rfl, hd0⟩
  have ks1 := DrvDid.box ks hd0 (fun hf => by have := Hlt.out _ hf; omega)
  obtain ⟨F1, FD1, A1, c1, bs1, Fs1, mb1, n1, Ac1, cc1, Ah1, ch1, h1, hm1, hF1⟩ := hd0
  obtain ⟨c0, -⟩ := h1.cells
  have hrd := DM.read_any h1.dev (by have := HY.out.2.2.n; have := Hm.out.1; omega) HY.out.1.zs z off
  unfold Sec.agg at hrd
  have Hf := hide hrd
  have H1 := hide h1
  have Hm1 := hide hm1
  have HF1 := hide hF1
  have Ks1 := hide ks1
  have Hb1 := hide hb1
  clear h1 hm1 hF1 Hbe hrd ks1 ks hb1
  go_wp2_with fail
  refine Hf.out.mono ?_
  rintro en w2 ⟨rfl, hd⟩
  have ks2 := DDid.box Ks1.out hd (fun hf => by
    rcases HF1.out _ (H1.out.inF.2.2.1 _ hf) with h | h
    · have := Hlt.out _ h; omega
    · simp at h; omega)
  have Hd := hide hd
  have Ks2 := hide ks2
  clear hd Hf ks2
  go_wp2_with ((with_reducible refine wpList_store_row ?g2 34 (.tmp 6) (.tmp 18) ?o2 w.heap.size (Y.D.read z off).2.1.cs.toArray ?x2 ?y2 34 Sec.zero.cs.toArray ?k2 ?s2 ?l2 ?a2 ?_); (case g2 => exact rfl); (case o2 => exact rfl); (case x2 => exact rfl); (case y2 => exact rfl); (case k2 => exact Ks2.out); (case s2 => exact ZD.sizeRow _); (case l2 => simp [Sec.len]); (case a2 => exact sec_all _))
  refine bodyPost_ret (v := .tuple #[(Y.D.read z off).2.1.agg, .int .i64 (Y.D.read z off).2.2]) ?_ rfl ?_
  · exact results_sec2 (fn := Try.f73) (p := 6) (u := 7) rfl Try.underlying34 ZD.sizeS _ _ _ rfl rfl (Ks2.out.setRow _)
  · exact ⟨rfl, DrvDid.result (DrvDid.join Hm1.out HF1.out (H1.out.devStep Hd.out)) Hb1.out (Nat.le_refl _) (by simp) (fun hk => by have := Hlt.out _ hk; omega) _⟩
set_option maxRecDepth 100000 in
set_option maxHeartbeats 2000000 in
theorem append_any (h : DrvIs w q d X F FD A c bs Fs mb n Ac cc Ah ch) (hb : X.Bd) (hO : X.D.Ok m) (hm : m < 65000) (hl : X.D.zs.length < 65536) (z : Int) (s : Sec) (hz : fits z) : Calls Try.prog 71 #[.pointer (some ⟨q, 0, none⟩), .int .i64 z, s.agg] w fun en w' => en = .returned (.tuple #[.int .i64 (X.append z s).2.1, .int .i64 (X.append z s).2.2]) ∧ DrvDid w w' q d (X.append z s).1 F := by
  unfold Sec.agg
  have hb1 : Below w.heap.size w (w.alloc (.cells s.cs.toArray 34)) := (Below.refl _ w).alloc (Nat.le_refl _) _
  have Ks := hide (Blk.new w 34 s.cs.toArray)
  obtain ⟨hbY, hnY, hlY, hOY⟩ := Dr.begin_keeps hb hO z
  have Hbe := hide (begin_any (h.below hb1) hb z)
  have HY := hide (And.intro hbY (And.intro hlY hOY))
  have Hm := hide (And.intro hm hl)
  have Hlt := hide h.lt
  have Hz := hide hz
  have Hb1 := hide hb1
  have Hs0 : Hid (w.heap.size < (w.alloc (.cells s.cs.toArray 34)).heap.size) := hide (by simp)
  have Hofit := hide (Dr.append_off z s hbY.zs)
  unfold Dr.append
  generalize X.begin_ z = Y at Hbe HY Hofit ⊢
  clear h hb hO hm hl hbY hnY hlY hOY hz hb1
  dsimp only
  by_cases hc : (Y.D.append z s).2.2 = 0
  · rw [if_pos hc]
    obtain ⟨off, hoff⟩ : ∃ off, off = (Y.D.append z s).2.1 := ⟨_, rfl⟩
    obtain ⟨code, hcode⟩ : ∃ code, code = (Y.D.append z s).2.2 := ⟨_, rfl⟩
    rw [show (Y.D.append z s).2 = (off, code) by rw [hoff, hcode]]
    dsimp only
    rw [← hoff] at Hofit
    rw [← hcode] at hc
    subst hc
    go_enter Try.func71, Try.ntmps71
    go_wp2_with fail
    generalize w.alloc (.cells s.cs.toArray 34) = w0 at Hbe Hb1 Ks Hs0 ⊢
    refine Hbe.out.mono ?_
    rintro en w1 ⟨rfl, hd0⟩
    have ks1 := DrvDid.box Ks.out hd0 (fun hf => by have := Hlt.out _ hf; omega)
    obtain ⟨F1, FD1, A1, c1, bs1, Fs1, mb1, n1, Ac1, cc1, Ah1, ch1, h1, hm1, hF1⟩ := hd0
    obtain ⟨c0, -⟩ := h1.cells
    have hap := DM.append_any h1.dev.drew (by have := HY.out.2.2.n; have := Hm.out.1; omega) (by have := HY.out.2.1.len; have := Hm.out.2; omega) HY.out.1.zs z s
    rw [← hoff, ← hcode] at hap
    unfold Sec.agg at hap
    have Hf := hide hap
    have H1 := hide h1
    have Hm1 := hide hm1
    have HF1 := hide hF1
    have Ks1 := hide ks1
    have Hrs := hide (ZD.range_blk s ks1)
    clear h1 hm1 hF1 Hbe hap ks1 hoff hcode
    go_upto_region 2 with (fail)
    refine wp_region_held_drew (S := fun w' => w'.cell? ⟨q, 0, none⟩ = some (.pointer (some ⟨d, 0, none⟩)) ∧ w'.rangeAt w.heap.size 0 s.cs) (by kernel_rfl) ⟨c0, Hrs.out⟩ (fun hHeld => ?_)
    refine wpAnyH_take (i := 0) (oi := ⟨_, _, _, _, _, _⟩) (v := ?_) rfl (by kernel_rfl) (by kernel_rfl) (by kernel_rfl) (fun _ _ _ h => h) (Or.inl ⟨by rfl, ?_⟩) hHeld ?_
    rotate_left
    · intro w' hS
      obtain ⟨x0, x1⟩ := hS
      go_simp
      first | done | with_reducible rfl
    try simp only [Act.put, List.setIfInBounds_toArray, List.set_cons_zero, List.set_cons_succ]
    refine wpAnyH_take (i := 1) (oi := ⟨_, _, _, _, _, _⟩) (v := ?_) rfl (by kernel_rfl) (by kernel_rfl) (by kernel_rfl) (fun _ _ _ h => h) (Or.inl ⟨by rfl, ?_⟩) hHeld ?_
    rotate_left
    · intro w' hS
      obtain ⟨x0, x1⟩ := hS
      go_simp
      first | done | with_reducible rfl
    try simp only [Act.put, List.setIfInBounds_toArray, List.set_cons_zero, List.set_cons_succ]
    refine wpAnyH_take (i := 2) (oi := ⟨_, _, _, _, _, _⟩) (v := ?_) rfl (by kernel_rfl) (by kernel_rfl) (by kernel_rfl) (fun _ _ _ h => h) (Or.inl ⟨by rfl, ?_⟩) hHeld ?_
    rotate_left
    · intro w' hS
      obtain ⟨x0, x1⟩ := hS
      go_simp
      first | done | with_reducible rfl
    try simp only [Act.put, List.setIfInBounds_toArray, List.set_cons_zero, List.set_cons_succ]
    refine wpAnyH_take (i := 3) (oi := ⟨_, _, _, _, _, _⟩) (v := ?_) rfl (by kernel_rfl) (by kernel_rfl) (by kernel_rfl) (fun _ _ _ h => h) (Or.inl ⟨by rfl, ?_⟩) hHeld ?_
    rotate_left
    · intro w' hS
      obtain ⟨x0, x1⟩ := hS
      go_simp
      first | done | with_reducible rfl
    try simp only [Act.put, List.setIfInBounds_toArray, List.set_cons_zero, List.set_cons_succ]
    refine wpAnyH_take (i := 4) (oi := ⟨_, _, _, _, _, _⟩) (v := ?_) rfl (by kernel_rfl) (by kernel_rfl) (by kernel_rfl) (fun _ _ _ h => h) (Or.inl ⟨by rfl, ?_⟩) hHeld ?_
    rotate_left
    · intro w' hS
      obtain ⟨x0, x1⟩ := hS
      go_simp
      first | done | with_reducible rfl
    try simp only [Act.put, List.setIfInBounds_toArray, List.set_cons_zero, List.set_cons_succ]
    refine wpAnyH_take (i := 5) (oi := ⟨_, _, _, _, _, _⟩) (v := .agg s.cs.toArray) rfl (by kernel_rfl) (by kernel_rfl) (by kernel_rfl) (fun _ _ _ h => h) (yieldsIf_load_mid (by rfl) 34 (.tmp 5) rfl w.heap.size (0) rfl s.cs _ (fun w' hS => hS.2) Try.underlying34 rfl (ZD.sizeSec _)) hHeld ?_
    try simp only [Act.put, List.setIfInBounds_toArray, List.set_cons_zero, List.set_cons_succ]
    refine wpAnyH_ready (rs := [6]) (by kernel_rfl) (by simp) ?_
    refine AllReadyH.cons rfl (fun K hK => ?_) AllReadyH.nil
    go_simp
    refine Hf.out.mono ?_
    rintro en w2 ⟨rfl, hd⟩
    have ks2 := DDid.box (show Blk w1.drew w.heap.size 34 _ from Ks1.out) hd (fun hf => by
      rcases HF1.out _ (H1.out.inF.2.2.1 _ hf) with h | h
      · have := Hlt.out _ h; omega
      · have := Hs0.out; omega)
    obtain ⟨F2, FD2, Fs2, h2, hm2, hF2⟩ := H1.out.drew.devTurn hd
    obtain ⟨d0, -, -, c3, -⟩ := h2.cells
    have HM := hide h2.map
    have H2 := hide h2
    have Hm2 := hide hm2
    have HF2 := hide hF2
    clear hd h2 hm2 hF2
    go_simp
    refine hK.out _ _ ⟨d0, ZD.range_blk s ks2⟩ (fun hHeld => ?_)
    clear hK K
    try simp only [Act.put, List.setIfInBounds_toArray, List.set_cons_zero, List.set_cons_succ]
    refine wpAnyH_take (i := 7) (oi := ⟨_, _, _, _, _, _⟩) (v := ?_) rfl (by kernel_rfl) (by kernel_rfl) (by kernel_rfl) (fun _ _ _ h => h) (Or.inl ⟨by rfl, ?_⟩) hHeld ?_
    rotate_left
    · intro w' hS
      obtain ⟨x0, x1⟩ := hS
      go_simp
      first | done | with_reducible rfl
    try simp only [Act.put, List.setIfInBounds_toArray, List.set_cons_zero, List.set_cons_succ]
    refine wpAnyH_take (i := 8) (oi := ⟨_, _, _, _, _, _⟩) (v := ?_) rfl (by kernel_rfl) (by kernel_rfl) (by kernel_rfl) (fun _ _ _ h => h) (Or.inl ⟨by rfl, ?_⟩) hHeld ?_
    rotate_left
    · intro w' hS
      obtain ⟨x0, x1⟩ := hS
      go_simp
      first | done | with_reducible rfl
    try simp only [Act.put, List.setIfInBounds_toArray, List.set_cons_zero, List.set_cons_succ]
    refine wpAnyH_take (i := 9) (oi := ⟨_, _, _, _, _, _⟩) (v := ?_) rfl (by kernel_rfl) (by kernel_rfl) (by kernel_rfl) (fun _ _ _ h => h) (Or.inl ⟨by rfl, ?_⟩) hHeld ?_
    rotate_left
    · intro w' hS
      obtain ⟨x0, x1⟩ := hS
      go_simp
      first | done | with_reducible rfl
    try simp only [Act.put, List.setIfInBounds_toArray, List.set_cons_zero, List.set_cons_succ]
    refine wpAnyH_take (i := 10) (oi := ⟨_, _, _, _, _, _⟩) (v := ?_) rfl (by kernel_rfl) (by kernel_rfl) (by kernel_rfl) (fun _ _ _ h => h) (Or.inl ⟨by rfl, ?_⟩) hHeld ?_
    rotate_left
    · intro w' hS
      obtain ⟨x0, x1⟩ := hS
      go_simp
      first | done | with_reducible rfl
    try simp only [Act.put, List.setIfInBounds_toArray, List.set_cons_zero, List.set_cons_succ]
    refine wpAnyH_take (i := 11) (oi := ⟨_, _, _, _, _, _⟩) (v := ?_) rfl (by kernel_rfl) (by kernel_rfl) (by kernel_rfl) (fun _ _ _ h => h) (Or.inl ⟨by rfl, ?_⟩) hHeld ?_
    rotate_left
    · intro w' hS
      obtain ⟨x0, x1⟩ := hS
      go_simp
      first | done | with_reducible rfl
    try simp only [Act.put, List.setIfInBounds_toArray, List.set_cons_zero, List.set_cons_succ]
    refine wpAnyH_done (by kernel_rfl) ?_ _
    go_wp2_with (at_delete; refine wpList_delete_mark rfl (.tmp 28) (.tmp 31) rfl rfl HM.out rfl Hz.out Hofit.out ?_; intro w3 hM3 hm3; have Hst := hide (H2.out.mapStep hM3 H2.out.cnt hm3); clear hM3 hm3)
    go_ret2
    exact ⟨rfl, DrvDid.ahead Hb1.out (DrvDid.join Hm1.out HF1.out (DrvDid.join (((Mods.refl _ w1).drew).trans Hm2.out (fun _ _ h => h)) HF2.out Hst.out))⟩
  · rw [if_neg hc]
    obtain ⟨off, hoff⟩ : ∃ off, off = (Y.D.append z s).2.1 := ⟨_, rfl⟩
    obtain ⟨code, hcode⟩ : ∃ code, code = (Y.D.append z s).2.2 := ⟨_, rfl⟩
    rw [show (Y.D.append z s).2 = (off, code) by rw [hoff, hcode]]
    dsimp only
    rw [← hcode] at hc
    have hcb : (code == 0) = false := beq_eq_false_iff_ne.2 hc
    go_enter Try.func71, Try.ntmps71
    go_wp2_with fail
    generalize w.alloc (.cells s.cs.toArray 34) = w0 at Hbe Hb1 Ks Hs0 ⊢
    refine Hbe.out.mono ?_
    rintro en w1 ⟨rfl, hd0⟩
    have ks1 := DrvDid.box Ks.out hd0 (fun hf => by have := Hlt.out _ hf; omega)
    obtain ⟨F1, FD1, A1, c1, bs1, Fs1, mb1, n1, Ac1, cc1, Ah1, ch1, h1, hm1, hF1⟩ := hd0
    obtain ⟨c0, -⟩ := h1.cells
    have hap := DM.append_any h1.dev.drew (by have := HY.out.2.2.n; have := Hm.out.1; omega) (by have := HY.out.2.1.len; have := Hm.out.2; omega) HY.out.1.zs z s
    rw [← hoff, ← hcode] at hap
    unfold Sec.agg at hap
    have Hf := hide hap
    have H1 := hide h1
    have Hm1 := hide hm1
    have HF1 := hide hF1
    have Ks1 := hide ks1
    have Hrs := hide (ZD.range_blk s ks1)
    clear h1 hm1 hF1 Hbe hap ks1 hoff hcode hc
    go_upto_region 2 with (fail)
    refine wp_region_held_drew (S := fun w' => w'.cell? ⟨q, 0, none⟩ = some (.pointer (some ⟨d, 0, none⟩)) ∧ w'.rangeAt w.heap.size 0 s.cs) (by kernel_rfl) ⟨c0, Hrs.out⟩ (fun hHeld => ?_)
    refine wpAnyH_take (i := 0) (oi := ⟨_, _, _, _, _, _⟩) (v := ?_) rfl (by kernel_rfl) (by kernel_rfl) (by kernel_rfl) (fun _ _ _ h => h) (Or.inl ⟨by rfl, ?_⟩) hHeld ?_
    rotate_left
    · intro w' hS
      obtain ⟨x0, x1⟩ := hS
      go_simp
      first | done | with_reducible rfl
    try simp only [Act.put, List.setIfInBounds_toArray, List.set_cons_zero, List.set_cons_succ]
    refine wpAnyH_take (i := 1) (oi := ⟨_, _, _, _, _, _⟩) (v := ?_) rfl (by kernel_rfl) (by kernel_rfl) (by kernel_rfl) (fun _ _ _ h => h) (Or.inl ⟨by rfl, ?_⟩) hHeld ?_
    rotate_left
    · intro w' hS
      obtain ⟨x0, x1⟩ := hS
      go_simp
      first | done | with_reducible rfl
    try simp only [Act.put, List.setIfInBounds_toArray, List.set_cons_zero, List.set_cons_succ]
    refine wpAnyH_take (i := 2) (oi := ⟨_, _, _, _, _, _⟩) (v := ?_) rfl (by kernel_rfl) (by kernel_rfl) (by kernel_rfl) (fun _ _ _ h => h) (Or.inl ⟨by rfl, ?_⟩) hHeld ?_
    rotate_left
    · intro w' hS
      obtain ⟨x0, x1⟩ := hS
      go_simp
      first | done | with_reducible rfl
    try simp only [Act.put, List.setIfInBounds_toArray, List.set_cons_zero, List.set_cons_succ]
    refine wpAnyH_take (i := 3) (oi := ⟨_, _, _, _, _, _⟩) (v := ?_) rfl (by kernel_rfl) (by kernel_rfl) (by kernel_rfl) (fun _ _ _ h => h) (Or.inl ⟨by rfl, ?_⟩) hHeld ?_
    rotate_left
    · intro w' hS
      obtain ⟨x0, x1⟩ := hS
      go_simp
      first | done | with_reducible rfl
    try simp only [Act.put, List.setIfInBounds_toArray, List.set_cons_zero, List.set_cons_succ]
    refine wpAnyH_take (i := 4) (oi := ⟨_, _, _, _, _, _⟩) (v := ?_) rfl (by kernel_rfl) (by kernel_rfl) (by kernel_rfl) (fun _ _ _ h => h) (Or.inl ⟨by rfl, ?_⟩) hHeld ?_
    rotate_left
    · intro w' hS
      obtain ⟨x0, x1⟩ := hS
      go_simp
      first | done | with_reducible rfl
    try simp only [Act.put, List.setIfInBounds_toArray, List.set_cons_zero, List.set_cons_succ]
    refine wpAnyH_take (i := 5) (oi := ⟨_, _, _, _, _, _⟩) (v := .agg s.cs.toArray) rfl (by kernel_rfl) (by kernel_rfl) (by kernel_rfl) (fun _ _ _ h => h) (yieldsIf_load_mid (by rfl) 34 (.tmp 5) rfl w.heap.size (0) rfl s.cs _ (fun w' hS => hS.2) Try.underlying34 rfl (ZD.sizeSec _)) hHeld ?_
    try simp only [Act.put, List.setIfInBounds_toArray, List.set_cons_zero, List.set_cons_succ]
    refine wpAnyH_ready (rs := [6]) (by kernel_rfl) (by simp) ?_
    refine AllReadyH.cons rfl (fun K hK => ?_) AllReadyH.nil
    go_simp
    refine Hf.out.mono ?_
    rintro en w2 ⟨rfl, hd⟩
    have ks2 := DDid.box (show Blk w1.drew w.heap.size 34 _ from Ks1.out) hd (fun hf => by
      rcases HF1.out _ (H1.out.inF.2.2.1 _ hf) with h | h
      · have := Hlt.out _ h; omega
      · have := Hs0.out; omega)
    obtain ⟨F2, FD2, Fs2, h2, hm2, hF2⟩ := H1.out.drew.devTurn hd
    obtain ⟨d0, -, -, c3, -⟩ := h2.cells
    have HM := hide h2.map
    have H2 := hide h2
    have Hm2 := hide hm2
    have HF2 := hide hF2
    clear hd h2 hm2 hF2
    go_simp
    refine hK.out _ _ ⟨d0, ZD.range_blk s ks2⟩ (fun hHeld => ?_)
    clear hK K
    try simp only [Act.put, List.setIfInBounds_toArray, List.set_cons_zero, List.set_cons_succ]
    refine wpAnyH_take (i := 7) (oi := ⟨_, _, _, _, _, _⟩) (v := ?_) rfl (by kernel_rfl) (by kernel_rfl) (by kernel_rfl) (fun _ _ _ h => h) (Or.inl ⟨by rfl, ?_⟩) hHeld ?_
    rotate_left
    · intro w' hS
      obtain ⟨x0, x1⟩ := hS
      go_simp
      first | done | with_reducible rfl
    try simp only [Act.put, List.setIfInBounds_toArray, List.set_cons_zero, List.set_cons_succ]
    refine wpAnyH_take (i := 8) (oi := ⟨_, _, _, _, _, _⟩) (v := ?_) rfl (by kernel_rfl) (by kernel_rfl) (by kernel_rfl) (fun _ _ _ h => h) (Or.inl ⟨by rfl, ?_⟩) hHeld ?_
    rotate_left
    · intro w' hS
      obtain ⟨x0, x1⟩ := hS
      go_simp
      first | done | with_reducible rfl
    try simp only [Act.put, List.setIfInBounds_toArray, List.set_cons_zero, List.set_cons_succ]
    refine wpAnyH_take (i := 9) (oi := ⟨_, _, _, _, _, _⟩) (v := ?_) rfl (by kernel_rfl) (by kernel_rfl) (by kernel_rfl) (fun _ _ _ h => h) (Or.inl ⟨by rfl, ?_⟩) hHeld ?_
    rotate_left
    · intro w' hS
      obtain ⟨x0, x1⟩ := hS
      go_simp
      first | done | with_reducible rfl
    try simp only [Act.put, List.setIfInBounds_toArray, List.set_cons_zero, List.set_cons_succ]
    refine wpAnyH_take (i := 10) (oi := ⟨_, _, _, _, _, _⟩) (v := ?_) rfl (by kernel_rfl) (by kernel_rfl) (by kernel_rfl) (fun _ _ _ h => h) (Or.inl ⟨by rfl, ?_⟩) hHeld ?_
    rotate_left
    · intro w' hS
      obtain ⟨x0, x1⟩ := hS
      go_simp
      first | done | with_reducible rfl
    try simp only [Act.put, List.setIfInBounds_toArray, List.set_cons_zero, List.set_cons_succ]
    refine wpAnyH_take (i := 11) (oi := ⟨_, _, _, _, _, _⟩) (v := ?_) rfl (by kernel_rfl) (by kernel_rfl) (by kernel_rfl) (fun _ _ _ h => h) (Or.inl ⟨by rfl, ?_⟩) hHeld ?_
    rotate_left
    · intro w' hS
      obtain ⟨x0, x1⟩ := hS
      go_simp
      first | done | with_reducible rfl
    try simp only [Act.put, List.setIfInBounds_toArray, List.set_cons_zero, List.set_cons_succ]
    refine wpAnyH_done (by kernel_rfl) ?_ _
    go_wp2_with fail
    go_ret2
    exact ⟨rfl, DrvDid.ahead Hb1.out (DrvDid.join Hm1.out HF1.out (DrvDid.join (((Mods.refl _ w1).drew).trans Hm2.out (fun _ _ h => h)) HF2.out H2.out.same))⟩
end
end DV
end Go.Proofs.Ytdinbhanekpjoaa
