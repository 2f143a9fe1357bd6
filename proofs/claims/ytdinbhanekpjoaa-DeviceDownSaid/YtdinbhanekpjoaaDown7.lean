/-
  A device that is down: its answers; and what a loop carries when only the device was called.
-/
import Derived.Test.YtdinbhanekpjoaaRel7
namespace Go.Proofs.Ytdinbhanekpjoaa
open Go.RowKit
namespace Dv
theorem append_down {D : Dv} (h : D.down = true) (z : Int) (s : Sec) : D.append z s = (D, 0, 34) := by rw [append_no s (by rw [begin_down z h]; simp), begin_down z h]
theorem read_down {D : Dv} (h : D.down = true) (z off : Int) : D.read z off = (D, Sec.zero, 34) := by rw [read_no off (by rw [begin_down z h]; simp), begin_down z h]
theorem reset_down {D : Dv} (h : D.down = true) (z : Int) : D.reset z = (D, 34) := by rw [reset, answer_no _ (by rw [begin_down z h]; simp), begin_down z h]
theorem finish_down {D : Dv} (h : D.down = true) (z : Int) : D.finish z = (D, 34) := by rw [finish, answer_no _ (by rw [begin_down z h]; simp), begin_down z h]
end Dv
section
variable {w w1 w2 wr : World} {g d c c' : Nat} {D D' : Dv} {F G : Nat → Prop} {A A' : Option Addr} {bs : List Nat} {Fs : Nat → Nat → Prop} {es : List RZ}
theorem Two.devDid (hT : Two w1 d D F A c bs Fs A' c' es G) (hd : DDid w1 w2 d D' F A c bs) (hz : D'.zs = D.zs) :
    ∃ F' Fs', Two w2 d D' F' A c bs Fs' A' c' es G ∧ ∀ k, F' k → F k ∨ w1.heap.size ≤ k := by
  have hr := hT.refThen hd
  obtain ⟨F1, Fs1, h1, hm1, hF1⟩ := hd
  refine ⟨F1, Fs1, ⟨h1, ⟨by rw [hz]; exact hr.zs, by rw [hz]; exact hr.own, hr.row, by rw [hz]; exact hr.inG⟩, fun k hk hg => ?_, fun k hk => Nat.lt_of_lt_of_le (hT.old k hk) hm1.size⟩, hF1⟩
  rcases hF1 k hk with h | h
  · exact hT.apart k h hg
  · have := hT.old k hg; omega
/-- The device was called and stands as it stood. -/
theorem Rel7.devDid (hT : Two wr d D F A c bs Fs A' c' es G) (hg : Blk wr g 31 (cellsD A' c' D)) (hFg : ¬ F g) (hGg : ¬ G g) (hF : ∀ k, F k → w.heap.size ≤ k) (hG : ∀ k, G k → w.heap.size ≤ k) (hb : Below w.heap.size w wr) (hgw : w.heap.size ≤ g)
    (hd : DDid wr w1 d D F A c bs) : Rel7 w g d D w1 := by
  obtain ⟨F1, Fs1, hT1, hF1⟩ := hT.devDid hd rfl
  have s := hb.size
  have hlt := hg.lt
  have hm := hd.choose_spec.choose_spec.2.1
  refine ⟨F1, A, c, bs, Fs1, A', c', es, G, hT1, hg.mods hm hFg, fun hk => ?_, hGg, fun k hk => ?_, hG, hb.trans (hm.below s hF), hgw⟩
  · rcases hF1 g hk with h | h
    · exact hFg h
    · omega
  · rcases hF1 k hk with h | h
    · exact hF k h
    · omega
/-- The crash: the device's, then the document's, whose last cell is set. -/
theorem Rel7.crashed (hT : Two wr d D F A c bs Fs A' c' es G) (hg : Blk wr g 31 (cellsD A' c' D)) (hFg : ¬ F g) (hGg : ¬ G g) (hF : ∀ k, F k → w.heap.size ≤ k) (hG : ∀ k, G k → w.heap.size ≤ k) (hb : Below w.heap.size w wr) (hgw : w.heap.size ≤ g)
    (hd : DDid wr w1 d { D with down := true } F A c bs) :
    Blk w1 g 31 (cellsD A' c' D) ∧ Rel7 w g d { D with down := true } (w1.setCell ⟨g, 4, none⟩ (.bool true)) := by
  obtain ⟨F1, Fs1, hT1, hF1⟩ := hT.devDid hd rfl
  have s := hb.size
  have hlt := hg.lt
  have hm := hd.choose_spec.choose_spec.2.1
  have hg1 := hg.mods hm hFg
  have hm1 : Mods (fun k => k = g) w1 (w1.setCell ⟨g, 4, none⟩ (.bool true)) := (Mods.refl (fun k => k = g) w1).setCell (p := ⟨g, 4, none⟩) (.inl rfl) _
  have n1 : ¬ F1 g := fun hk => by
    rcases hF1 g hk with h | h
    · exact hFg h
    · omega
  have hb1 : Below w.heap.size w w1 := hb.trans (hm.below s hF)
  refine ⟨hg1, F1, A, c, bs, Fs1, A', c', es, G, ⟨hT1.dev.mods hm1 (fun k hk e => n1 (e ▸ hk)), hT1.ref.mods hm1 (fun k hk _ e => hGg (e ▸ hk)), hT1.apart, fun k hk => Nat.lt_of_lt_of_le (hT1.old k hk) hm1.size⟩, ?_, n1, hGg, fun k hk => ?_, hG, hb1.trans (hm1.below hb1.size (fun k e => by omega)), hgw⟩
  · have := hg1.set_ 4 (.bool true)
    simpa [cellsD] using this
  · rcases hF1 k hk with h | h
    · exact hF k h
    · omega
end
end Go.Proofs.Ytdinbhanekpjoaa
