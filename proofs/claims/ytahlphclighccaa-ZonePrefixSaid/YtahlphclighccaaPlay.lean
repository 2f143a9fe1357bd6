/-
  A play of a zone and the document's zone, round by round: what a law's loop carries.
-/
import Derived.Test.YtahlphclighccaaStepAny
import Derived.Test.YtahlphclighccaaAnchor
namespace Go.Proofs.Ytahlphclighccaa
open Go.RowKit

/-- A step: kind, X, Y. -/
abbrev Stp := Int × Int × Int

/-- What is known of the slice of steps that came in. -/
def CameOps (w : World) (A : Option Addr) (os : List Stp) : Prop :=
  0 < os.length → ∃ b off, A = some ⟨b, off, none⟩ ∧ b < w.heap.size ∧ ∀ k (h : k < os.length),
    w.cell? ⟨b, off + k * 3, none⟩ = some (.int .i64 os[k].1) ∧ w.cell? ⟨b, off + k * 3 + 1, none⟩ = some (.int .i64 os[k].2.1) ∧ w.cell? ⟨b, off + k * 3 + 2, none⟩ = some (.int .i64 os[k].2.2)

theorem CameOps.at_ {w wr : World} {A : Option Addr} {os : List Stp} (h : CameOps w A os) (hb : Below w.heap.size w wr) (k : Nat) (hk : k < os.length) :
    ∃ b off, A = some ⟨b, off, none⟩ ∧ b < w.heap.size ∧ wr.cell? ⟨b, off + k * 3, none⟩ = some (.int .i64 os[k].1) ∧ wr.cell? ⟨b, off + k * 3 + 1, none⟩ = some (.int .i64 os[k].2.1) ∧ wr.cell? ⟨b, off + k * 3 + 2, none⟩ = some (.int .i64 os[k].2.2) := by
  obtain ⟨b, off, hA, hlt, hc⟩ := h (by omega)
  obtain ⟨c0, c1, c2⟩ := hc k hk
  exact ⟨b, off, hA, hlt, (hb.cell (p := ⟨b, off + k * 3, none⟩) hlt).trans c0, (hb.cell (p := ⟨b, off + k * 3 + 1, none⟩) hlt).trans c1, (hb.cell (p := ⟨b, off + k * 3 + 2, none⟩) hlt).trans c2⟩

def stepO (z : Zn Int) (o : Stp) : Zn Int := stepZ z o.1 o.2.1 o.2.2
def played (z : Zn Int) (os : List Stp) (k : Nat) : Zn Int := (os.take k).foldl stepO z
theorem played_zero (z : Zn Int) (os : List Stp) : played z os 0 = z := by simp [played]
theorem played_succ (z : Zn Int) (os : List Stp) (k : Nat) (hk : k < os.length) : played z os (k + 1) = stepZ (played z os k) os[k].1 os[k].2.1 os[k].2.2 := by
  simp only [played, List.take_succ_eq_append_getElem hk, List.foldl_append, List.foldl_cons, List.foldl_nil, stepO]
theorem played_ok {z : Zn Int} (h : z.Ok) (os : List Stp) (k : Nat) : (played z os k).Ok := by
  unfold played
  generalize os.take k = l
  induction l generalizing z with
  | nil => exact h
  | cons o l ih => exact ih (stepZ_ok h _ _ _)

/-- Between two rounds: the zone at b is z, the document's zone, which lies in block g, is u; all that was there when the law began is as it was. -/
def Rel (w : World) (g b : Nat) (z u : Zn Int) (wr : World) : Prop :=
  ∃ A c F G, Both wr b z A c u F G ∧ Blk wr g 49 #[.slice A u.L.length c, .int .i64 u.size, .int .i64 (u.safe : Int), .int .i64 u.state, .bool u.fin] ∧ ¬ F g ∧ ¬ G g ∧
    (∀ k, F k → w.heap.size ≤ k) ∧ (∀ k, G k → w.heap.size ≤ k) ∧ Below w.heap.size w wr ∧ w.heap.size ≤ g

theorem Both.set5 {w : World} {b c g : Nat} {A : Option Addr} {z u : Zn Int} {F G : Nat → Prop} (h : Both w b z A c u F G) (hF : ¬ F g) (hG : ¬ G g) (v0 v1 v2 v3 v4 : Value) :
    Both (((((w.setCell ⟨g, 0, none⟩ v0).setCell ⟨g, 1, none⟩ v1).setCell ⟨g, 2, none⟩ v2).setCell ⟨g, 3, none⟩ v3).setCell ⟨g, 4, none⟩ v4) b z A c u F G := by
  have hm := Mods.set5 (fun k => k = g) w g v0 v1 v2 v3 v4 rfl
  exact ⟨h.zone.mods hm (fun k hk e => hF (e ▸ hk)), h.ref.mods hm (fun k hk _ e => hG (e ▸ hk)), h.apart, fun k hk => Nat.lt_of_lt_of_le (h.old k hk) hm.size⟩

/-- A step, and its answer stored. -/
theorem Rel.next {w wr w1 w3 : World} {g b : Nat} {F G F' G' : Nat → Prop} {A' : Option Addr} {c' : Nat} {z' u' : Zn Int} {v0 v1 v2 v3 v4 : Value} {T : TypeId} (hb : Below w.heap.size w wr) (hw1 : Below wr.heap.size wr w1) (hg : Blk w3 g T #[v0, v1, v2, v3, v4]) (hT : T = 49)
    (hF : ∀ k, F k → w.heap.size ≤ k) (hG : ∀ k, G k → w.heap.size ≤ k) (hFg : ¬ F g) (hGg : ¬ G g) (hlt : g < wr.heap.size) (hgw : w.heap.size ≤ g)
    (h3 : Both w3 b z' A' c' u' F' G') (hm : Mods F w1 w3) (hF3 : ∀ k, F' k → F k ∨ w1.heap.size ≤ k) (hG3 : ∀ k, G' k → G k ∨ w1.heap.size ≤ k) :
    Rel w g b z' u' (((((w3.setCell ⟨g, 0, none⟩ (.slice A' u'.L.length c')).setCell ⟨g, 1, none⟩ (.int .i64 u'.size)).setCell ⟨g, 2, none⟩ (.int .i64 (u'.safe : Int))).setCell ⟨g, 3, none⟩ (.int .i64 u'.state)).setCell ⟨g, 4, none⟩ (.bool u'.fin)) := by
  subst hT
  have hs := hw1.size
  have hs2 := hb.size
  have n1 : ¬ F' g := fun h => by
    rcases hF3 g h with h | h
    · exact hFg h
    · omega
  have n2 : ¬ G' g := fun h => by
    rcases hG3 g h with h | h
    · exact hGg h
    · omega
  refine ⟨A', c', F', G', h3.set5 n1 n2 _ _ _ _ _, hg.set5 _ _ _ _ _, n1, n2, fun k hk => ?_, fun k hk => ?_, ?_, hgw⟩
  · rcases hF3 k hk with h | h
    · exact hF k h
    · omega
  · rcases hG3 k hk with h | h
    · exact hG k h
    · omega
  · have hb1 : Below w.heap.size w w1 := hb.trans (hw1.mono hs2)
    exact (hb1.trans (hm.below hb1.size hF)).trans ((Mods.set5 (fun k => k = g) w3 g _ _ _ _ _ rfl).below (Nat.le_trans hb1.size hm.size) (fun k e => by omega))
end Go.Proofs.Ytahlphclighccaa
