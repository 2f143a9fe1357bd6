/-
  What ZonePrefix's loop carries: the zone, the slice 'was' that reads as the zone does, and the marks of the loops over an iterator.
-/
import Derived.Test.YtahlphclighccaaPlays
namespace Go.Proofs.Ytahlphclighccaa
open Go.RowKit Go.Shelf It

/-- The parts: zone z at b, 'was' boxed in gw: a row that reads z's list; the marks Ds. -/
structure PreAt (w : World) (gw b : Nat) (z : Zn Int) (Ds : List Nat) (A : Option Addr) (c : Nat) (F G : Nat → Prop) (wr : World) : Prop where
  both : Both wr b z A c z F G
  was : Blk wr gw 39 #[.slice A z.L.length c]
  gwF : ¬ F gw
  gwG : ¬ G gw
  hiF : ∀ k, F k → w.heap.size ≤ k
  hiG : ∀ k, G k → w.heap.size ≤ k
  bel : Below w.heap.size w wr
  gwhi : w.heap.size ≤ gw
  ds : ∀ D ∈ Ds, wr.heap[D]? = some (.deferred (some [])) ∧ ¬ F D ∧ ¬ G D ∧ D ≠ gw ∧ w.heap.size ≤ D
  nodup : Ds.Nodup
def Pre (w : World) (gw b : Nat) (z : Zn Int) (Ds : List Nat) (wr : World) : Prop := ∃ A c F G, PreAt w gw b z Ds A c F G wr

section
variable {w wr wx w1 w3 : World} {gw b c c' : Nat} {A A' : Option Addr} {F G : Nat → Prop} {z z' : Zn Int} {Ds : List Nat}
theorem lt_of_some {w : World} {D : Nat} {o : Obj} (h : w.heap[D]? = some o) : D < w.heap.size := (Array.getElem?_eq_some_iff.1 h).1
theorem PreAt.below (h : PreAt w gw b z Ds A c F G wr) (hb : Below wr.heap.size wr wx) : PreAt w gw b z Ds A c F G wx :=
  ⟨h.both.below hb, (hb.block gw h.was.lt).trans h.was, h.gwF, h.gwG, h.hiF, h.hiG, h.bel.trans (hb.mono h.bel.size), h.gwhi,
    fun D hD => by
      obtain ⟨h1, h2⟩ := h.ds D hD
      exact ⟨(hb.block D (lt_of_some h1)).trans h1, h2⟩, h.nodup⟩
/-- A step of the zone that leaves its list as it was. -/
theorem PreAt.zone (h : PreAt w gw b z Ds A c F G wr) (hd : ZI.Does wr w3 b z' F) (hL : z'.L = z.L) : Pre w gw b z' Ds w3 := by
  have hr := refThen h.both hd
  obtain ⟨F', hat, hm, hF'⟩ := hd
  have hs := hm.size
  have hgl := h.was.lt
  have hbs := h.bel.size
  have hG' : ∀ k, F' k → ¬ G k := fun k hk hk2 => by
    rcases hF' k hk with h1 | h1
    · exact h.both.apart k h1 hk2
    · have := h.both.old k hk2; omega
  refine ⟨A, c, F', G, ⟨⟨hat, ?_, hG', fun k hk => Nat.lt_of_lt_of_le (h.both.old k hk) hs⟩, ?_, ?_, h.gwG, ?_, h.hiG, h.bel.trans (hm.below hbs h.hiF), h.gwhi, ?_, h.nodup⟩⟩
  · obtain ⟨r1, r2⟩ := hr
    exact ⟨by rw [hL]; exact r1, by rw [hL]; exact r2⟩
  · rw [hL]; exact h.was.mods hm h.gwF
  · intro h1
    rcases hF' gw h1 with h1 | h1
    · exact h.gwF h1
    · omega
  · intro k hk
    rcases hF' k hk with h1 | h1
    · exact h.hiF k h1
    · omega
  · intro D hD
    obtain ⟨h1, h2, h3, h4, h5⟩ := h.ds D hD
    have hl := lt_of_some h1
    refine ⟨(hm.block D hl h2).trans h1, fun h6 => ?_, h3, h4, h5⟩
    rcases hF' D h6 with h6 | h6
    · exact h2 h6
    · omega
/-- A step of the zone; then a row is laid, or an old one kept, that reads the new list; then it is stored. -/
theorem PreAt.stored (h : PreAt w gw b z Ds A c F G wr) (hd : ZI.Does wr w1 b z' F) (hb : Below w1.heap.size w1 w3)
    (hown : w3.ownsRow 0 3 1 (.slice A' z'.L.length c') z'.L.length (z'.L.map (Value.int .i64))) (hat : ∀ g, (Value.slice A' z'.L.length c').ownBlock = some g → G g ∨ w1.heap.size ≤ g) :
    Pre w gw b z' Ds (w3.setCell ⟨gw, 0, none⟩ (.slice A' z'.L.length c')) := by
  obtain ⟨F', hat0, hm, hF'⟩ := hd
  have hs := hm.size
  have hs3 := hb.size
  have hgl := h.was.lt
  have hbs := h.bel.size
  have hFl : ∀ k, F' k → k < w1.heap.size := by obtain ⟨_, _, _, _, _, _, hl⟩ := hat0; exact hl
  have hgF : ¬ F' gw := fun h1 => by
    rcases hF' gw h1 with h1 | h1
    · exact h.gwF h1
    · omega
  have hset := (Mods.refl (fun k => k = gw) w3).setCell (p := ⟨gw, 0, none⟩) (.inl rfl) (.slice A' z'.L.length c')
  have hown' : (w3.setCell ⟨gw, 0, none⟩ (.slice A' z'.L.length c')).ownsRow 0 3 1 (.slice A' z'.L.length c') z'.L.length (z'.L.map (Value.int .i64)) :=
    own_mods hown hset (fun g hg e => by
      subst e
      rcases hat g hg with h1 | h1
      · exact h.gwG h1
      · omega)
  have hsz := hset.size
  have hwas3 : Blk w3 gw 39 #[.slice A z.L.length c] := (hb.block gw (Nat.lt_of_lt_of_le hgl hs)).trans (h.was.mods hm h.gwF)
  have hz3 : ZI.At w3 b z' F' := hat0.mods (Mods.of_below hb (fun _ => False)) (fun _ _ h => h)
  refine ⟨A', c', F', fun k => (G k ∨ w1.heap.size ≤ k) ∧ k < w3.heap.size ∧ k ≠ gw ∧ k ∉ Ds, ⟨⟨hz3.mods hset (fun k hk e => hgF (e ▸ hk)), ⟨hown', fun g hg => ⟨hat g hg, own_lt hown g hg, fun e => ?_, fun e => ?_⟩⟩, ?_, ?_⟩, ?_, hgF, fun h1 => h1.2.2.1 rfl, ?_, ?_, ?_, h.gwhi, ?_, h.nodup⟩⟩
  · subst e
    rcases hat g hg with h1 | h1
    · exact h.gwG h1
    · omega
  · obtain ⟨h1, h2, h3, h4, h5⟩ := h.ds g e
    have hl := lt_of_some h1
    rcases hat g hg with h6 | h6
    · exact h3 h6
    · omega
  · rintro k hk ⟨h1 | h1, _⟩
    · rcases hF' k hk with h2 | h2
      · exact h.both.apart k h2 h1
      · have := h.both.old k h1; omega
    · have := hFl k hk; omega
  · exact fun k hk => Nat.lt_of_lt_of_le hk.2.1 hsz
  · simpa using hwas3.set_ 0 (.slice A' z'.L.length c')
  · intro k hk
    rcases hF' k hk with h1 | h1
    · exact h.hiF k h1
    · omega
  · rintro k ⟨h1 | h1, _⟩
    · exact h.hiG k h1
    · omega
  · exact ((h.bel.trans (hm.below hbs h.hiF)).trans (hb.mono (by omega))).trans (hset.below (by omega) (fun k e => by subst e; exact h.gwhi))
  · intro D hD
    obtain ⟨h1, h2, h3, h4, h5⟩ := h.ds D hD
    have hl := lt_of_some h1
    have hD3 : w3.heap[D]? = some (.deferred (some [])) := (hb.block D (by omega)).trans ((hm.block D hl h2).trans h1)
    refine ⟨(hset.block D (by omega) h4).trans hD3, fun h6 => ?_, fun h6 => h6.2.2.2 hD, h4, h5⟩
    rcases hF' D h6 with h6 | h6
    · exact h2 h6
    · omega
/-- A row read no further than its beginning. -/
theorem own_take {w : World} {e : TypeId} {n c m : Nat} {A : Option Addr} {xs : List Value} (h : w.ownsRow 0 e 1 (.slice A n c) n xs) (hm : m ≤ n) (hA : A = none → m = 0) : w.ownsRow 0 e 1 (.slice A m c) m (xs.take m) := by
  have hl := h.1
  refine ⟨by simp; omega, ?_⟩
  rcases h.2 with ⟨h', hx⟩ | ⟨g, cap, cur, h', hb, hg, hc, hcm, hcs, ht⟩
  · simp only [Value.slice.injEq] at h'
    obtain ⟨rfl, rfl, rfl⟩ := h'
    obtain rfl : m = 0 := by omega
    exact .inl ⟨rfl, by simp⟩
  · simp only [Value.slice.injEq] at h'
    obtain ⟨rfl, _, rfl⟩ := h'
    refine .inr ⟨g, c, cur, rfl, hb, hg, by omega, hcm, hcs, ?_⟩
    rw [← ht, List.take_take]
    congr 1
    omega
theorem Pre.start {w w1 w2 : World} {b : Nat} {s : Int} (hB : Below w.heap.size w w1) (hm : ZI.Made w1 w2 b (Zn.new s)) :
    Pre w w2.heap.size b (Zn.new s) [] (w2.alloc (.cells #[.slice none 0 0] 39)) := by
  obtain ⟨F, hz, hb, hf⟩ := hm.below
  have hlt : ∀ k, F k → k < w2.heap.size := by obtain ⟨_, _, _, _, _, _, hl⟩ := hz; exact hl
  have hs1 := hB.size
  have hs2 := hb.size
  exact ⟨none, 0, F, fun _ => False, ⟨⟨hz.alloc _, ⟨World.ownsRow_nil _ _ _ _, fun g hg => by simp [Value.ownBlock] at hg⟩, fun _ _ h => h, fun _ h => h.elim⟩, Blk.new _ _ _, fun h => by have := hlt _ h; omega, fun h => h,
    fun k hk => by have := hf k hk; omega, fun _ h => h.elim, (hB.trans (hb.mono hs1)).alloc (by omega) _, by omega, fun _ h => by simp at h, List.nodup_nil⟩⟩
/-- A loop over an iterator is over: nothing that was there has turned, and its mark lies behind. -/
theorem PreAt.mark (h : PreAt w gw b z Ds A c F G wr) (hb : Below wr.heap.size wr wx) {D : Nat} (hD : wr.heap.size ≤ D) (hd : wx.heap[D]? = some (.deferred (some []))) : Pre w gw b z (D :: Ds) wx := by
  have h' := h.below hb
  have hlt := h.both.lt
  have hold := h.both.old
  have hgw := h.was.lt
  have hbs := h.bel.size
  refine ⟨A, c, F, G, { h' with ds := fun E hE => ?_, nodup := List.nodup_cons.2 ⟨fun hm => ?_, h'.nodup⟩ }⟩
  · rcases List.mem_cons.1 hE with rfl | hE
    · exact ⟨hd, fun hf => by have := hlt _ hf; omega, fun hg => by have := hold _ hg; omega, by omega, by omega⟩
    · exact h'.ds E hE
  · have := lt_of_some (h.ds D hm).1
    omega
end
end Go.Proofs.Ytahlphclighccaa
