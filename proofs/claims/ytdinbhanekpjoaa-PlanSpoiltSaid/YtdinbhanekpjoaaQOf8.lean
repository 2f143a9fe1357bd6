/-
  An event as the document has it.
-/
import Derived.Test.YtdinbhanekpjoaaQRef8a
namespace Go.Proofs.Ytdinbhanekpjoaa
open Go.RowKit
theorem wpList_build_e8 {ops : Array Oper} {rest : List Oper} {o : Oper} {a : Act} {w : World} {Q : Exit → Act → World → Prop} (hgd : o.guard = none) (x0 x1 x2 x3 x4 : Operand) (e : EvV) (ho : o.op = .build 116 #[(0, x0), (1, x1), (2, x2), (3, x3), (4, x4)]) (h0 : a.eval x0 = .int .i64 e.at_) (h1 : a.eval x1 = .int .i64 e.kind) (h2 : a.eval x2 = .int .i64 e.zone) (h3 : a.eval x3 = .int .i64 e.off) (h4 : a.eval x4 = .agg e.p.cs.toArray)
    (h : wpList Try.prog ops Q rest (a.put o.dst (.agg e.cells.toArray)) w) : wpList Try.prog ops Q (o :: rest) a w :=
  wpList_plain hgd fun _ hK => by
    unfold Oper.wp execOp
    simp only [ho, List.map_toArray, List.map_cons, List.map_nil, h0, h1, h2, h3, h4, Sem.run_bind, run_build_e8 e w, Result.andThen_ok, Sem.run_pure]
    exact hK _ _ h
namespace R8
set_option maxRecDepth 100000 in
set_option maxHeartbeats 1000000 in
theorem of_any (e : EvV) (w : World) : Calls Try.prog 79 #[e.agg] w fun en w' => en = .returned e.agg ∧ Below w.heap.size w w' := by
  unfold EvV.agg
  have hB : Below w.heap.size w ((w.alloc (.cells e.cells.toArray 66)).alloc (.cells EvV.zero.cells.toArray 116)) := ((Below.refl _ w).alloc (Nat.le_refl _) _).alloc (by simp) _
  have ke := (Blk.new w 66 e.cells.toArray).alloc (.cells EvV.zero.cells.toArray 116)
  have kr := Blk.new (w.alloc (.cells e.cells.toArray 66)) 116 EvV.zero.cells.toArray
  rw [World.size_alloc] at kr
  obtain ⟨e0, e1, e2, e3, er⟩ := EvV.blk4 ke
  have Her := hide er
  have HB := hide hB
  have KR := hide kr
  clear hB ke kr er
  go_enter Try.func79, Try.ntmps79
  go_upto_region 1 with (fail)
  generalize hWA : World.alloc (World.alloc w _) _ = W2
  have hWA' : (w.alloc (.cells e.cells.toArray 66)).alloc (.cells EvV.zero.cells.toArray 116) = W2 := hWA
  rw [hWA'] at e0 e1 e2 e3 Her HB KR
  clear hWA hWA'
  go_wp2_with (first
    | ((with_reducible refine wpList_load_mid ?g1 34 (.tmp 11) ?o1 w.heap.size (4) ?x1 e.p.cs ?d1 ?r1 ?u1 ?f1 ?i1 ?_); (case g1 => exact rfl); (case o1 => exact rfl); (case x1 => exact rfl); (case r1 => exact Her.out); (case u1 => exact Try.underlying34); (case f1 => exact rfl); (case i1 => exact ZD.sizeSec _))
    | ((with_reducible refine wpList_build_e8 ?g2 (.tmp 4) (.tmp 6) (.tmp 8) (.tmp 10) (.tmp 12) e ?o2 ?h0 ?h1 ?h2 ?h3 ?h4 ?_); (case g2 => exact rfl); (case o2 => exact rfl); (case h0 => exact rfl); (case h1 => exact rfl); (case h2 => exact rfl); (case h3 => exact rfl); (case h4 => exact rfl))
    | ((with_reducible refine wpList_store_row ?g3 116 (.tmp 2) (.tmp 13) ?o3 (w.heap.size + 1) e.cells.toArray ?x3 ?y3 116 EvV.zero.cells.toArray ?k3 ?s3 ?l3 ?a3 ?_); (case g3 => exact rfl); (case o3 => exact rfl); (case x3 => exact rfl); (case y3 => exact rfl); (case k3 => exact KR.out); (case s3 => exact E8.sizeR _); (case l3 => simp [EvV.length]); (case a3 => exact EvV.all _)))
  refine bodyPost_ret (v := .agg e.cells.toArray) ?_ rfl ?_
  · exact results_cell_row (fn := Try.f79) (p := 2) rfl _ _ (w.heap.size + 1) 116 _ (0, 0) _ rfl (KR.out.setRow _) Try.underlying116 rfl (E8.sizeR _)
  · exact ⟨rfl, below_setRow HB.out (by omega) _⟩
end R8
end Go.Proofs.Ytdinbhanekpjoaa
