/-
  The laws of chapter 07: the anchor, and what a law's loop carries: the device, and the document's in a block.
-/
import Derived.Test.YtdinbhanekpjoaaOpen7
namespace Go.Proofs.Ytdinbhanekpjoaa
open Go.RowKit

def Sec.one1 : Sec := ⟨.int .u8 1 :: List.replicate 63 (.int .u8 0), by simp, fun v hv => by
  rcases List.mem_cons.1 hv with h | h
  · exact ⟨1, h⟩
  · exact ⟨0, (List.mem_replicate.1 h).2⟩⟩
namespace An7
def D0 : Dv := Dv.made 2 2 1
def D1 : Dv := (D0.append 0 Sec.one1).1
def D2 : Dv := (D1.append 1 Sec.one1).1
theorem e1 : (D0.append 0 Sec.one1).2.2 = 0 := by rfl
theorem e2 : (D1.append 1 Sec.one1).2.2 = 33 := by rfl
theorem e3 : D2.n = 2 := by rfl
theorem e4 : D2.stateOf 0 = 1 := by rfl
theorem ok0 : D0.Ok 0 := ⟨Nat.le_refl _, fun x hx => by
  have := (List.mem_replicate.1 hx).2
  subst this
  exact ⟨by simp [Zn.new], by simp [Zn.new], by simp [Zn.new], rfl⟩⟩
theorem ok1 : D1.Ok 1 := (Dv.append_ok ok0 _ _).1
theorem l0 : D0.zs.length = 2 := by rfl
theorem l1 : D1.zs.length = 2 := by rfl
end An7

set_option maxRecDepth 100000 in
set_option maxHeartbeats 1000000 in
theorem anchor7_any (w : World) : Calls Try.prog 13 #[] w fun e w' => e = .returned (.bool true) ∧ Below w.heap.size w w' := by
  go_enter Try.func13, Try.ntmps13
  go_wp2_with fail
  refine (DM.new_any 2 2 1 _ (by omega) (by omega) (by omega) (by omega) (by omega) (by omega)).mono ?_
  rintro e w1 ⟨rfl, F1, A, c, bs, Fs1, h1, hb1, hF1, hs1⟩
  have H1 : DevIs w1 w.heap.size An7.D0 F1 A c bs Fs1 := h1
  have hl1 := h1.lt
  have Hd := hide (DM.append_any H1 (by have := An7.ok0.n; omega) (by rw [An7.l0]; omega) (fun x hx => by have := (An7.ok0.zs x hx).1; omega) 0 Sec.one1)
  have Hb1 := hide hb1
  have HF1 := hide hF1
  have Hs1 := hide hs1
  clear h1 H1 hb1 hF1 hs1 hl1
  go_wp2_with fail
  refine Hd.out.mono ?_
  rw [An7.e1]
  rintro e w2 ⟨rfl, F2, Fs2, h2, hm2, hF2⟩
  have H2 : DevIs w2 w.heap.size An7.D1 F2 A c bs Fs2 := h2
  have Hd2 := hide (DM.append_any H2 (by have := An7.ok1.n; omega) (by rw [An7.l1]; omega) (fun x hx => by have := (An7.ok1.zs x hx).1; omega) 1 Sec.one1)
  have Hb2 := hide (Hb1.out.trans (hm2.below Hs1.out HF1.out))
  have HF2 : Hid (∀ k, F2 k → w.heap.size ≤ k) := hide (fun k hk => by
    rcases hF2 k hk with h | h
    · exact HF1.out k h
    · have := Hs1.out; omega)
  clear h2 H2 hm2 hF2 Hd
  go_wp2_with fail
  refine Hd2.out.mono ?_
  rw [An7.e2]
  rintro e w3 ⟨rfl, F3, Fs3, h3, hm3, hF3⟩
  have H3 : DevIs w3 w.heap.size An7.D2 F3 A c bs Fs3 := h3
  have Hc := hide (DM.count_any H3)
  have Hst := hide (DM.state_any H3 0)
  rw [An7.e3] at Hc
  rw [An7.e4] at Hst
  have Hb3 := hide (Hb2.out.trans (hm3.below Hb2.out.size HF2.out))
  clear h3 H3 hm3 hF3 Hd2
  go_wp2_with fail
  refine Hc.out.mono ?_
  rintro e w' ⟨rfl, rfl⟩
  go_wp2_with fail
  refine Hst.out.mono ?_
  rintro e w' ⟨rfl, rfl⟩
  go_wp2_with fail
  go_ret
  exact ⟨rfl, Hb3.out⟩

def rightB (z s o : Int) : Bool := decide (1 ≤ z) && decide (z ≤ 512) && decide (1 ≤ s) && decide (s ≤ 64) && decide (1 ≤ o) && decide (o ≤ 64)
set_option maxHeartbeats 1000000 in
theorem right_any (z s o : Int) (w : World) : Calls Try.prog 14 #[.int .i64 z, .int .i64 s, .int .i64 o] w fun e w' => e = .returned (.bool (rightB z s o)) ∧ w = w' := by
  have fin : ∀ b, rightB z s o = b → Hid (rightB z s o = b) := fun _ h => hide h
  by_cases h1 : 1 ≤ z
  · by_cases h2 : z ≤ 512
    · by_cases h3 : 1 ≤ s
      · by_cases h4 : s ≤ 64
        · by_cases h5 : 1 ≤ o
          · by_cases h6 : o ≤ 64
            · have hf := fin true (by simp [rightB, h1, h2, h3, h4, h5, h6])
              clear fin
              go_enter Try.func14, Try.ntmps14
              go_wp2
              go_ret
              rw [hf.out]
              exact ⟨rfl, rfl⟩
            · have hf := fin false (by simp [rightB, h1, h2, h3, h4, h5, h6])
              clear fin
              go_enter Try.func14, Try.ntmps14
              go_wp2
              go_ret
              rw [hf.out]
              exact ⟨rfl, rfl⟩
          · have hf := fin false (by simp [rightB, h1, h2, h3, h4, h5])
            clear fin
            go_enter Try.func14, Try.ntmps14
            go_wp2
            go_ret
            rw [hf.out]
            exact ⟨rfl, rfl⟩
        · have hf := fin false (by simp [rightB, h1, h2, h3, h4])
          clear fin
          go_enter Try.func14, Try.ntmps14
          go_wp2
          go_ret
          rw [hf.out]
          exact ⟨rfl, rfl⟩
      · have hf := fin false (by simp [rightB, h1, h2, h3])
        clear fin
        go_enter Try.func14, Try.ntmps14
        go_wp2
        go_ret
        rw [hf.out]
        exact ⟨rfl, rfl⟩
    · have hf := fin false (by simp [rightB, h1, h2])
      clear fin
      go_enter Try.func14, Try.ntmps14
      go_wp2
      go_ret
      rw [hf.out]
      exact ⟨rfl, rfl⟩
  · have hf := fin false (by simp [rightB, h1])
    clear fin
    go_enter Try.func14, Try.ntmps14
    go_wp2
    go_ret
    rw [hf.out]
    exact ⟨rfl, rfl⟩

/-! ### What a loop carries -/
def playTo (D : Dv) (os : List OpV) (k : Nat) : Dv := (os.take k).foldl Dv.play D
theorem playTo_zero (D : Dv) (os : List OpV) : playTo D os 0 = D := by simp [playTo]
theorem playTo_succ (D : Dv) (os : List OpV) (k : Nat) (hk : k < os.length) : playTo D os (k + 1) = (playTo D os k).play os[k] := by
  simp only [playTo, List.take_succ_eq_append_getElem hk, List.foldl_append, List.foldl_cons, List.foldl_nil]
theorem playTo_ok {D : Dv} {m : Nat} (h : D.Ok m) (os : List OpV) : ∀ k, k ≤ os.length → (playTo D os k).Ok (m + k) ∧ D.Like (playTo D os k)
  | 0, _ => by rw [playTo_zero]; exact ⟨h, .refl D⟩
  | k + 1, hk => by
    obtain ⟨a, b⟩ := playTo_ok h os k (by omega)
    rw [playTo_succ D os k (by omega)]
    obtain ⟨c, d⟩ := Dv.play_ok a os[k]
    exact ⟨c, b.trans d⟩

def cellsD (A : Option Addr) (c : Nat) (D : Dv) : Array Value := #[.slice A D.zs.length c, .int .i64 D.size, .int .i64 D.op, .int .i64 (D.n : Int), .bool D.down]
/-- Between two rounds: the device at d and the document's, which lies in block g, are D; all that was there when the law began is as it was. -/
def Rel7 (w : World) (g d : Nat) (D : Dv) (wr : World) : Prop :=
  ∃ F A c bs Fs A' c' es G, Two wr d D F A c bs Fs A' c' es G ∧ Blk wr g 31 (cellsD A' c' D) ∧ ¬ F g ∧ ¬ G g ∧ (∀ k, F k → w.heap.size ≤ k) ∧ (∀ k, G k → w.heap.size ≤ k) ∧ Below w.heap.size w wr ∧ w.heap.size ≤ g

section
variable {w w1 w2 w3 w4 wr : World} {g d : Nat} {D D' : Dv}
theorem Rel7.below (h : Rel7 w g d D wr) (hb : Below wr.heap.size wr w1) : Rel7 w g d D w1 := by
  obtain ⟨F, A, c, bs, Fs, A', c', es, G, hT, hg, a1, a2, a3, a4, a5, a6⟩ := h
  exact ⟨F, A, c, bs, Fs, A', c', es, G, hT.below hb, (hb.block g hg.lt).trans hg, a1, a2, a3, a4, a5.trans (hb.mono a5.size), a6⟩
theorem Rel7.world (h : Rel7 w g d D wr) : Below w.heap.size w wr := by
  obtain ⟨F, A, c, bs, Fs, A', c', es, G, hT, hg, a1, a2, a3, a4, a5, a6⟩ := h
  exact a5
theorem Rel7.lt (h : Rel7 w g d D wr) : g < wr.heap.size := by
  obtain ⟨F, A, c, bs, Fs, A', c', es, G, hT, hg, a1, a2, a3, a4, a5, a6⟩ := h
  exact hg.lt
/-- The beginning: both are new. -/
theorem Rel7.start {A' : Option Addr} {c' : Nat} {es : List RZ} (hB : Below w.heap.size w w1) (hd : DM.Laid w1.heap.size w1 w2 d D) (hr : RefIs w3 D A' c' es (fun k => False ∨ w2.heap.size ≤ k)) (hb3 : Below w2.heap.size w2 w3) :
    Rel7 w w3.heap.size d D (w3.alloc (.cells (cellsD A' c' D) 31)) := by
  obtain ⟨F, A, c, bs, Fs, h, hb2, hF, hs⟩ := hd
  have s1 := hB.size
  have s2 := hb2.size
  have s3 := hb3.size
  have hlt := h.lt
  have ha : Below w3.heap.size w3 (w3.alloc (.cells (cellsD A' c' D) 31)) := (Below.refl _ w3).alloc (Nat.le_refl _) _
  refine ⟨F, A, c, bs, Fs, A', c', es, fun k => w2.heap.size ≤ k ∧ k < w3.heap.size, ⟨(h.below hb3).below ha, (hr.tight.below ha).mono (fun k hk => ⟨hk.1.elim False.elim id, hk.2⟩), fun k hk hg => by have := hlt k hk; omega, fun k hk => by simp; omega⟩, Blk.new _ _ _, fun hk => by have := hlt _ hk; omega, fun hk => by omega,
    fun k hk => by have := hF k hk; omega, fun k hk => by omega, ((hB.trans (hb2.mono s1)).trans (hb3.mono (by omega))).trans (ha.mono (by omega)), by omega⟩
/-- A step, and its answer stored. -/
theorem Rel7.next {F G : Nat → Prop} {A : Option Addr} {c : Nat} {bs : List Nat} {v0 v1 v2 v3 v4 : Value} {A2 : Option Addr} {c2 : Nat} {es2 : List RZ} {F' G' : Nat → Prop} {Fs' : Nat → Nat → Prop}
    (hb : Below w.heap.size w wr) (hw1 : Below wr.heap.size wr w1) (hg : Blk w3 g 31 #[v0, v1, v2, v3, v4]) (hFg : ¬ F g) (hGg : ¬ G g) (hF : ∀ k, F k → w.heap.size ≤ k) (hG : ∀ k, G k → w.heap.size ≤ k) (hlt : g < wr.heap.size) (hgw : w.heap.size ≤ g)
    (h3 : Two w3 d D' F' A c bs Fs' A2 c2 es2 G') (hm : Mods F w1 w3) (hF3 : ∀ k, F' k → F k ∨ w1.heap.size ≤ k) (hG3 : ∀ k, G' k → G k ∨ w1.heap.size ≤ k) :
    Rel7 w g d D' (((((w3.setCell ⟨g, 0, none⟩ (.slice A2 D'.zs.length c2)).setCell ⟨g, 1, none⟩ (.int .i64 D'.size)).setCell ⟨g, 2, none⟩ (.int .i64 D'.op)).setCell ⟨g, 3, none⟩ (.int .i64 (D'.n : Int))).setCell ⟨g, 4, none⟩ (.bool D'.down)) := by
  have hs := hw1.size
  have hs2 := hb.size
  have n1 : ¬ F' g := fun h => by
    rcases hF3 g h with h | h
    · exact hFg h
    · omega
  have n2 : ¬ G' g := fun h => by
    rcases hG3 g h with h | h
    · exact hGg h
    · omega
  have hm5 := Mods.set5 (fun k => k = g) w3 g (.slice A2 D'.zs.length c2) (.int .i64 D'.size) (.int .i64 D'.op) (.int .i64 (D'.n : Int)) (.bool D'.down) rfl
  have hb1 : Below w.heap.size w w1 := hb.trans (hw1.mono hs2)
  refine ⟨F', A, c, bs, Fs', A2, c2, es2, G', ⟨h3.dev.mods hm5 (fun k hk e => n1 (e ▸ hk)), h3.ref.mods hm5 (fun k hk _ e => n2 (e ▸ hk)), h3.apart, fun k hk => Nat.lt_of_lt_of_le (h3.old k hk) hm5.size⟩, hg.set5 _ _ _ _ _, n1, n2, fun k hk => ?_, fun k hk => ?_, ?_, hgw⟩
  · rcases hF3 k hk with h | h
    · exact hF k h
    · omega
  · rcases hG3 k hk with h | h
    · exact hG k h
    · omega
  · exact (hb1.trans (hm.below hb1.size hF)).trans (hm5.below (Nat.le_trans hb1.size hm.size) (fun k e => by omega))
end
end Go.Proofs.Ytdinbhanekpjoaa
