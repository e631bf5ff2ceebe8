/- A result that is a struct or an array and lies in a block of the call's own. -/
import Derived.Test.YtdgilgnaoifpcaaDoorNewAgg
namespace Go.Proofs.YtdgilgnaoifpcaaDoor
open Go.RowKit
/-- The result is a struct or an array that lies in block b. -/
theorem ret_cell_row {P : Program} {fn : Func} {R : Ending → World → Prop} {p : Tmp} {ty : TypeId} {tmps : Array Value} {W : World} {b : Nat} {c : Array Value} {d : TypeDesc} (h : fn.results = #[.cell p ty])
    (hp : tmps.getD p undef = .pointer (some ⟨b, 0, none⟩)) (hu : P.underlying ty = some d) (hd : (match d with | .struct _ | .array _ _ => true | _ => false) = true) (hi : (P.info? ty).map (·.size) = some c.size) (hh : W.heap[b]? = some (.cells c ty (0, 0))) (hR : R (.returned (.agg c)) W) :
    bodyPost P fn R .ret ⟨tmps, []⟩ W := by
  refine bodyPost_ret (v := .agg c) ?_ rfl hR
  rw [results_cell1 h, hp]
  simp [asAddr, Result.andThen, run_loadVar_row W b ty ty c (0, 0) d hh hu hd hi]
end Go.Proofs.YtdgilgnaoifpcaaDoor
