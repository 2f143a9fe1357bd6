/-
  A drive's Revive; a new drive.
-/
import Derived.Test.YtdinbhanekpjoaaQDrv8f
import Derived.Carry
namespace Go.Proofs.Ytdinbhanekpjoaa
open Go.RowKit
namespace Dr
theorem revTo_ge (M : Marks) (D : Dv) (k : Nat) : revTo M D (k + 1) = (revTo M D k).forget D.size (k : Int) (D.lenOf (k : Int)) := rfl
end Dr
namespace DV
section
variable {w : World} {q d : Nat} {X : Dr} {F FD : Nat → Prop} {A : Option Addr} {c : Nat} {bs : List Nat} {Fs : Nat → Nat → Prop} {mb n m : Nat} {Ac : Option Addr} {cc : Nat} {Ah : Option Addr} {ch : Nat}
set_option maxRecDepth 100000 in
set_option maxHeartbeats 2000000 in
theorem revive_any (h : DrvIs w q d X F FD A c bs Fs mb n Ac cc Ah ch) (hO : X.D.Ok m) (hm : m < 65000) (hl : X.D.zs.length < 65536) (hsz : X.D.size ≤ 64) (K : Option Addr) (kc : Nat) (keep : List Int) (hK : DM.CameInts w K keep) (hKF : 0 < keep.length → ∀ b off, K = some ⟨b, off, none⟩ → ¬ F b) (hkl : keep.length ≤ maxLen) :
    Calls Try.prog 77 #[.pointer (some ⟨q, 0, none⟩), .slice K keep.length kc] w fun en w' => en = .returned (.tuple #[]) ∧ DrvDid w w' q d (X.revive keep) F := by
  obtain ⟨c0, -⟩ := h.cells
  have Hrv := hide (DM.revive_any h.dev hl (fun x hx => by have := hO.zs x hx; omega) K kc keep hK (fun h0 b off e hf => hKF h0 b off e (h.inF.2.2.1 b hf)) hkl)
  have hrok := Dv.revive_ok hO keep
  have Hrok := hide hrok
  have Hm := hide (And.intro hm (And.intro hl hsz))
  have H0 := hide h
  unfold Dr.revive
  generalize X.D.revive keep = D' at Hrv Hrok ⊢
  clear h hO hm hl hsz hK hKF hkl hrok
  go_enter Try.func77, Try.ntmps77
  go_wp2_with fail
  refine Hrv.out.mono ?_
  rintro en w1 ⟨rfl, hd⟩
  obtain ⟨F1, FD1, Fs1, h1, hm1, hF1⟩ := H0.out.devTurn hd
  obtain ⟨c0, -⟩ := h1.cells
  have Hz := hide (DM.zones_any h1.dev)
  have Hst : Hid (DrvDid w w1 q d { X with D := D', marks := Dr.revTo X.marks D' 0 } F) := hide ⟨F1, FD1, A, c, bs, Fs1, mb, n, Ac, cc, Ah, ch, h1, hm1, hF1⟩
  clear hd h1 hm1 hF1 Hrv
  go_wp2_with fail
  refine Hz.out.mono ?_
  rintro en w' ⟨rfl, rfl⟩
  go_wp2_with fail
  go_loopw [16] (fun i wr => ∃ k : Nat, i = .int .i64 k ∧ k ≤ D'.zs.length ∧ DrvDid w wr q d { X with D := D', marks := Dr.revTo X.marks D' k } F) (fun i _ => D'.zs.length - (intOf i).toNat)
  case atStart => exact ⟨0, rfl, Nat.zero_le _, Hst.out⟩
  case round =>
    obtain ⟨k, rfl, hk, F2, FD2, A2, c2, bs2, Fs2, mb2, n2, Ac2, cc2, Ah2, ch2, h2, hm2, hF2⟩ := hrel
    have hlen : D'.zs.length < 65536 := by have := Hrok.out.2.len; have := Hm.out.2.1; omega
    by_cases hlt : k < D'.zs.length
    · obtain ⟨c0, -⟩ := h2.cells
      have hlk := DM.len_any h2.dev (k : Int)
      have hfo := forget_any h2 (k : Int) (D'.lenOf (k : Int)) (fits_of (by omega) (by omega)) (by rw [Dv.lenOf_in hlt]; omega) (by rw [Dv.lenOf_in hlt]; have := (Hrok.out.1.zs _ (List.getElem_mem hlt)).1; have := Hm.out.1; omega) (by show D'.size ≤ 64; rw [Hrok.out.2.size]; exact Hm.out.2.2)
      have Hlk := hide hlk
      have Hfo := hide hfo
      have Hm2 := hide hm2
      have HF2 := hide hF2
      clear hlk hfo hm2 hF2 h2
      go_wp2_with fail
      refine Hlk.out.mono ?_
      rintro en w' ⟨rfl, rfl⟩
      go_wp2_with fail
      refine Hfo.out.mono ?_
      rintro en w3 ⟨rfl, hd⟩
      have Hd := hide (DrvDid.join Hm2.out HF2.out hd)
      clear hd Hfo Hlk
      go_wp2_with fail
      go_roundw
      case rel => exact ⟨k + 1, by go_num, by omega, Hd.out⟩
      case measure => simp [intOf]; omega
    · obtain rfl : k = D'.zs.length := by omega
      have Hfin : Hid (DrvDid w wr q d { X with D := D', marks := Dr.revTo X.marks D' D'.zs.length } F) := hide ⟨F2, FD2, A2, c2, bs2, Fs2, mb2, n2, Ac2, cc2, Ah2, ch2, h2, hm2, hF2⟩
      clear h2 hm2 hF2
      go_wp2_with fail
      go_end0
      exact ⟨rfl, Hfin.out⟩
end
/-- A drive has been laid beyond B. -/
def Laid8 (B : Nat) (w0 w : World) (q d : Nat) (X : Dr) : Prop := ∃ F FD A c bs Fs mb n Ac cc Ah ch, DrvIs w q d X F FD A c bs Fs mb n Ac cc Ah ch ∧ Below B w0 w ∧ (∀ k, F k → B ≤ k) ∧ B ≤ w.heap.size
def Dr.made (k : Nat) (size op : Int) : Dr := { D := Dv.made k size op, coming := [], happened := [], marks := Marks.none }
theorem own_nil8 (w : World) : w.ownsRow 0 66 68 (.slice none 0 0) 0 [] := World.ownsRow_nil _ _ _ _
set_option maxRecDepth 100000 in
set_option maxHeartbeats 1000000 in
theorem new_any (zones size op : Int) (w : World) (hz1 : 1 ≤ zones) (hz2 : zones ≤ 512) (hs1 : 1 ≤ size) (hs2 : size ≤ 64) (ho1 : 1 ≤ op) (ho2 : op ≤ 64) :
    Calls Try.prog 70 #[.int .i64 zones, .int .i64 size, .int .i64 op] w fun e w' => ∃ q, e = .returned (.tuple #[.pointer (some ⟨q, 0, none⟩), .int .i64 0]) ∧ Laid8 w.heap.size w w' q w.heap.size (Dr.made zones.toNat size op) := by
  have Hn := hide (DM.new_any zones size op w hz1 hz2 hs1 hs2 ho1 ho2)
  have hmm := @run_makeMap Try.prog
  go_enter Try.func70, Try.ntmps70
  go_wp2_with fail
  refine Hn.out.mono ?_
  rintro en w1 ⟨rfl, FD, A, c, bs, Fs, h1, hb1, hF1, hs1⟩
  have H1 := hide h1
  have Hb1 := hide hb1
  have HF1 := hide (And.intro hF1 hs1)
  clear h1 hb1 hF1 hs1 Hn
  go_wp2_with fail
  go_ret2
  have hbm : Below w1.heap.size w1 (w1.alloc (.map #[] 0)) := (Below.refl _ w1).alloc (Nat.le_refl _) _
  have hbq : Below (w1.alloc (.map #[] 0)).heap.size (w1.alloc (.map #[] 0)) ((w1.alloc (.map #[] 0)).alloc (.cells #[.pointer (some ⟨w.heap.size, 0, none⟩), .slice none 0 0, .slice none 0 0, .map (some w1.heap.size)] 121)) := (Below.refl _ _).alloc (Nat.le_refl _) _
  have hb12 : Below w1.heap.size w1 ((w1.alloc (.map #[] 0)).alloc (.cells #[.pointer (some ⟨w.heap.size, 0, none⟩), .slice none 0 0, .slice none 0 0, .map (some w1.heap.size)] 121)) := hbm.trans (hbq.mono (by simp))
  have kq : Blk ((w1.alloc (.map #[] 0)).alloc (.cells #[.pointer (some ⟨w.heap.size, 0, none⟩), .slice none 0 0, .slice none 0 0, .map (some w1.heap.size)] 121)) (w1.heap.size + 1) 121 #[.pointer (some ⟨w.heap.size, 0, none⟩), .slice none 0 0, .slice none 0 0, .map (some w1.heap.size)] := by
    have := Blk.new (w1.alloc (.map #[] 0)) 121 #[.pointer (some ⟨w.heap.size, 0, none⟩), .slice none 0 0, .slice none 0 0, .map (some w1.heap.size)]
    rwa [World.size_alloc] at this
  have hlt := H1.out.lt
  have hsz := HF1.out.2
  refine ⟨w1.heap.size + 1, by simp, fun k => FD k ∨ k = w1.heap.size ∨ k = w1.heap.size + 1, FD, A, c, bs, Fs, w1.heap.size, 0, none, 0, none, 0, ⟨kq, H1.out.below hb12, own_nil8 _, own_nil8 _, (MapIs.made w1).below hbq, Nat.le_refl _, ⟨.inr (.inr rfl), .inr (.inl rfl), fun k hk => .inl hk, fun g hg => by simp [blkOf] at hg, fun g hg => by simp [blkOf] at hg⟩, ⟨fun hf => by have := hlt _ hf; omega, fun hf => by have := hlt _ hf; omega, by omega⟩, fun g hg => by simp [blkOf] at hg, fun g hg => by simp [blkOf] at hg, fun g hg => by simp [blkOf] at hg, ?_⟩, Hb1.out.trans (hb12.mono hsz), ?_, Nat.le_trans hsz hb12.size⟩
  · rintro k (hk | rfl | rfl)
    · have := hlt k hk; rw [World.size_alloc, World.size_alloc]; omega
    · rw [World.size_alloc, World.size_alloc]; omega
    · rw [World.size_alloc, World.size_alloc]; omega
  · rintro k (hk | rfl | rfl)
    · exact HF1.out.1 k hk
    · omega
    · omega
set_option maxHeartbeats 1000000 in
theorem new_no (zones size op : Int) (w : World) (h : ¬ (1 ≤ zones ∧ zones ≤ 512 ∧ 1 ≤ size ∧ size ≤ 64 ∧ 1 ≤ op ∧ op ≤ 64)) :
    Calls Try.prog 70 #[.int .i64 zones, .int .i64 size, .int .i64 op] w fun e w' => e = .returned (.tuple #[.pointer none, .int .i64 13]) ∧ Below w.heap.size w w' := by
  have Hn := hide (DM.new_no zones size op w h)
  clear h
  go_enter Try.func70, Try.ntmps70
  go_wp2_with fail
  refine Hn.out.mono ?_
  rintro en w1 ⟨rfl, hb⟩
  go_wp2_with fail
  go_ret2
  exact ⟨rfl, hb⟩
end DV
end Go.Proofs.Ytdinbhanekpjoaa
