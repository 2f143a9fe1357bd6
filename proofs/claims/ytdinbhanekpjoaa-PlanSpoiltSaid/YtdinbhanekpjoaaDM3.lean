/-
  A device's Fail, Spoil, Read and Append.
-/
import Derived.Test.YtdinbhanekpjoaaDM2
namespace Go.Proofs.Ytdinbhanekpjoaa
open Go.RowKit
namespace Dv
def fail (D : Dv) (z s : Int) : Dv × Int :=
  if z < 0 ∨ (D.zs.length : Int) ≤ z then (D, 13) else (match D.zs[z.toNat]? with | some x => (D.put z.toNat (x.fail s), 0) | none => (D, 0))
def spoil (D : Dv) (z off : Int) (p : Sec) : Dv × Int :=
  if z < 0 ∨ (D.zs.length : Int) ≤ z then (D, 13) else (match D.zs[z.toNat]? with | some x => (D.put z.toNat (x.change (Sec.xor · p) off).1, (x.change (Sec.xor · p) off).2) | none => (D, 0))
def read (D : Dv) (z off : Int) : Dv × Sec × Int :=
  if (D.begin_ z).2 ≠ 0 then ((D.begin_ z).1, Sec.zero, (D.begin_ z).2) else
  match D.zs[z.toNat]? with
  | some x => (D.tick, (x.read Sec.zero off).1, (x.read Sec.zero off).2)
  | none => (D, Sec.zero, 0)
def append (D : Dv) (z : Int) (s : Sec) : Dv × Int × Int :=
  if (D.begin_ z).2 ≠ 0 then ((D.begin_ z).1, 0, (D.begin_ z).2) else
  match D.zs[z.toNat]? with
  | some x => if x.state = 0 ∧ D.op ≤ (D.opened : Int) then (D.tick, 0, 33) else (D.tick.put z.toNat (x.append s).1, (x.append s).2.1, (x.append s).2.2)
  | none => (D, 0, 0)
theorem fail_out {D : Dv} {z : Int} (s : Int) (h : z < 0 ∨ (D.zs.length : Int) ≤ z) : D.fail z s = (D, 13) := by rw [fail, if_pos h]
theorem fail_in {D : Dv} {k : Nat} (s : Int) (h : k < D.zs.length) : D.fail (k : Int) s = (D.put k (D.zs[k].fail s), 0) := by rw [fail, if_neg (by omega)]; simp [h]
theorem spoil_out {D : Dv} {z : Int} (off : Int) (p : Sec) (h : z < 0 ∨ (D.zs.length : Int) ≤ z) : D.spoil z off p = (D, 13) := by rw [spoil, if_pos h]
theorem spoil_in {D : Dv} {k : Nat} (off : Int) (p : Sec) (h : k < D.zs.length) : D.spoil (k : Int) off p = (D.put k (D.zs[k].change (Sec.xor · p) off).1, (D.zs[k].change (Sec.xor · p) off).2) := by rw [spoil, if_neg (by omega)]; simp [h]
theorem read_no {D : Dv} {z : Int} (off : Int) (h : ¬ (D.begin_ z).2 = 0) : D.read z off = ((D.begin_ z).1, Sec.zero, (D.begin_ z).2) := by rw [read, if_pos h]
theorem read_in {D : Dv} {k : Nat} (off : Int) (h : ¬ D.down = true) (hk : k < D.zs.length) : D.read (k : Int) off = (D.tick, (D.zs[k].read Sec.zero off).1, (D.zs[k].read Sec.zero off).2) := by
  rw [read, begin_in k h hk, if_neg (by simp)]; simp [hk]
theorem append_no {D : Dv} {z : Int} (s : Sec) (h : ¬ (D.begin_ z).2 = 0) : D.append z s = ((D.begin_ z).1, 0, (D.begin_ z).2) := by rw [append, if_pos h]
theorem append_open {D : Dv} {k : Nat} (s : Sec) (h : ¬ D.down = true) (hk : k < D.zs.length) (h0 : D.zs[k].state = 0) (ho : D.op ≤ (D.opened : Int)) : D.append (k : Int) s = (D.tick, 0, 33) := by
  rw [append, begin_in k h hk, if_neg (by simp)]; simp [hk, h0, ho]
theorem append_in {D : Dv} {k : Nat} (s : Sec) (h : ¬ D.down = true) (hk : k < D.zs.length) (h0 : ¬ (D.zs[k].state = 0 ∧ D.op ≤ (D.opened : Int))) : D.append (k : Int) s = (D.tick.put k (D.zs[k].append s).1, (D.zs[k].append s).2.1, (D.zs[k].append s).2.2) := by
  rw [append, begin_in k h hk, if_neg (by simp)]
  simp only [Int.toNat_natCast, List.getElem?_eq_getElem hk]
  rw [if_neg h0]
end Dv
namespace DM
section
variable {w : World} {d : Nat} {D : Dv} {F : Nat → Prop} {A : Option Addr} {c : Nat} {bs : List Nat} {Fs : Nat → Nat → Prop}
set_option maxHeartbeats 400000 in
theorem fail_any (h : DevIs w d D F A c bs Fs) (z s : Int) : Calls Try.prog 55 #[.pointer (some ⟨d, 0, none⟩), .int .i64 z, .int .i64 s] w fun e w' => e = .returned (.int .i64 (D.fail z s).2) ∧ DDid w w' d (D.fail z s).1 F A c bs := by
  by_cases hz : z < 0 ∨ (D.zs.length : Int) ≤ z
  · have hfin := hide (Dv.fail_out s hz)
    have Hc := hide (has_no h z hz)
    have h' := hide h
    clear h hz
    go_enter Try.func55, Try.ntmps55
    go_wp2_with fail
    refine Hc.out.mono ?_
    rintro e w' ⟨rfl, rfl⟩
    go_wp2_with fail
    go_ret
    rw [hfin.out]
    exact ⟨rfl, h'.out.same⟩
  · obtain ⟨k, rfl⟩ := Int.eq_ofNat_of_zero_le (show 0 ≤ z by omega)
    have hk : k < D.zs.length := by omega
    have hfin := hide (Dv.fail_in s hk)
    have Hc := hide (has_yes h k hk)
    obtain ⟨g, rfl, hlc, hk', c0, cg, hz1⟩ := ready h hk
    have Hz := hide (ZD.fail_any _ s _ _ _ hz1)
    have h' := hide h
    clear h hz hz1
    go_enter Try.func55, Try.ntmps55
    go_wp2_with fail
    refine Hc.out.mono ?_
    rintro e w' ⟨rfl, rfl⟩
    go_wp2_with fail
    refine Hz.out.mono ?_
    rintro e w2 ⟨rfl, hd2⟩
    go_wp2_with fail
    go_ret
    rw [hfin.out]
    exact ⟨rfl, h'.out.step hk hk' hd2⟩

set_option maxRecDepth 100000 in
set_option maxHeartbeats 400000 in
theorem spoil_any (h : DevIs w d D F A c bs Fs) (hL : ∀ x ∈ D.zs, x.L.length < 65536) (z off : Int) (p : Sec) : Calls Try.prog 27 #[.pointer (some ⟨d, 0, none⟩), .int .i64 z, .int .i64 off, p.agg] w fun e w' => e = .returned (.int .i64 (D.spoil z off p).2) ∧ DDid w w' d (D.spoil z off p).1 F A c bs := by
  have hB := (Below.refl w.heap.size w).alloc (Nat.le_refl _) (.cells p.cs.toArray 34)
  have hP : Blk (w.alloc (.cells p.cs.toArray 34)) w.heap.size 34 p.cs.toArray := Blk.new _ _ _
  have hb := h.below hB
  unfold Sec.agg
  have hmf : ∀ (fn : Fn) (first cap : Array Value) (w : World), (Instr.makeFunc fn first cap).run Try.prog w = .ok (.func fn first cap) w := fun _ _ _ _ => rfl
  by_cases hz : z < 0 ∨ (D.zs.length : Int) ≤ z
  · have hfin := hide (Dv.spoil_out off p hz)
    have Hc := hide (has_no hb z hz)
    have h' := hide (hb.same.ahead hB)
    clear h hz hL hb hP hB
    go_enter Try.func27, Try.ntmps27
    go_wp2_with fail
    refine Hc.out.mono ?_
    rintro e w' ⟨rfl, rfl⟩
    go_wp2_with fail
    go_ret
    rw [hfin.out]
    exact ⟨rfl, h'.out⟩
  · obtain ⟨k, rfl⟩ := Int.eq_ofNat_of_zero_le (show 0 ≤ z by omega)
    have hk : k < D.zs.length := by omega
    have hfin := hide (Dv.spoil_in off p hk)
    have Hc := hide (has_yes hb k hk)
    obtain ⟨g, rfl, hlc, hk', c0, cg, hz1⟩ := ready hb hk
    have Hz := hide (ZD.change_any _ off p _ w.heap.size _ _ hz1 (hL _ (List.getElem_mem hk)) hP)
    have h' := hide hb
    have HB := hide hB
    clear h hz hz1 hL hb hP hB
    go_enter Try.func27, Try.ntmps27
    go_wp2_with fail
    refine Hc.out.mono ?_
    rintro e w' ⟨rfl, rfl⟩
    go_wp2_with fail
    refine Hz.out.mono ?_
    rintro e w2 ⟨rfl, hd2⟩
    go_wp2_with fail
    go_ret
    rw [hfin.out]
    exact ⟨rfl, (h'.out.step hk hk' hd2).ahead HB.out⟩
end
end DM
end Go.Proofs.Ytdinbhanekpjoaa
