/- A whole struct or array stored into the block that was made last, in one step. -/
import Derived.Deep.WholeRow
import Derived.Test.YtdgilgnaoifpcaaDoorBase
import Derived.Test.YtdgilgnaoifpcaaDoorRows
import Derived.Outline
namespace Go.Proofs.YtdgilgnaoifpcaaDoor
open Go.RowKit
section
variable {P : Program} {ops : Array Oper} {rest : List Oper} {o : Oper} {a : Act} {w : World} {Q : Exit → Act → World → Prop}
theorem wp_store_new {K : Act → World → Prop} (ty : TypeId) (x y : Operand) (ho : o.op = .store ty x y) (c c' : Array Value)
    (hx : a.eval x = .pointer (some ⟨w.heap.size, 0, none⟩)) (hy : a.eval y = .agg c') (hi : (P.info? ty).map (·.size) = some c'.size) (hs : c.size = c'.size) (h1 : c'.all (·.oneCell') = true)
    (h : K (a.put o.dst undef) (w.alloc (.cells c' ty))) : o.wp P a (w.alloc (.cells c ty)) K Q := by
  unfold Oper.wp execOp
  simp only [ho, hx, hy, run_storeAt_new w ty c c' hi hs h1, Sem.run_bind, Sem.run_pure, Result.andThen_ok]
  exact h
theorem wpList_store_new (hgd : o.guard = none) (ty : TypeId) (x y : Operand) (ho : o.op = .store ty x y) (c c' : Array Value)
    (hx : a.eval x = .pointer (some ⟨w.heap.size, 0, none⟩)) (hy : a.eval y = .agg c') (hi : (P.info? ty).map (·.size) = some c'.size) (hs : c.size = c'.size) (h1 : c'.all (·.oneCell') = true)
    (h : wpList P ops Q rest (a.put o.dst undef) (w.alloc (.cells c' ty))) : wpList P ops Q (o :: rest) a (w.alloc (.cells c ty)) :=
  wpList_plain hgd fun _ hK => wp_store_new ty x y ho c c' hx hy hi hs h1 (hK _ _ h)
theorem results_cell1 {fn : Func} {p : Tmp} {ty : TypeId} (h : fn.results = #[.cell p ty]) (tmps : Array Value) (w : World) :
    (results fn tmps).run P w = ((asAddr (tmps.getD p undef)).run P w).andThen fun a w₁ => (loadVar ty a).run P w₁ := by
  simp only [results, h]
  simp [Sem.run_bind, Result.andThen]
/-- The result lies in the block that was made last. -/
theorem ret_cell_new {fn : Func} {R : Ending → World → Prop} {p : Tmp} {ty : TypeId} {tmps : Array Value} {c : Array Value} {n : Nat} {e : TypeId} (h : fn.results = #[.cell p ty])
    (hp : tmps.getD p undef = .pointer (some ⟨w.heap.size, 0, none⟩)) (hu : P.underlying ty = some (.array n e)) (hi : (P.info? ty).map (·.size) = some c.size) (hR : R (.returned (.agg c)) (w.alloc (.cells c ty))) :
    bodyPost P fn R .ret ⟨tmps, []⟩ (w.alloc (.cells c ty)) := by
  refine bodyPost_ret (v := .agg c) ?_ rfl hR
  rw [results_cell1 h, hp]
  simp [asAddr, Result.andThen, run_loadVar_new w ty c n e hu hi]
end
end Go.Proofs.YtdgilgnaoifpcaaDoor
