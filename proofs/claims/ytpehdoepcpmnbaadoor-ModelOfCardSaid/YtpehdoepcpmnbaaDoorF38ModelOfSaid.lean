/- A load of a whole struct or array, as a step of a region that may be taken first (for base/XOn's rlA, huA, hzA). -/
import Derived.Test.YtpehdoepcpmnbaaDoorF5ModelOfSaid
namespace Go.Proofs.YtpehdoepcpmnbaaDoor
open Go.RowKit
section
variable {P : Program} {o : Oper} {a : Act} {w : World}
theorem yields_load_row (ty : TypeId) (x : Operand) (ho : o.op = .load ty x) (g : Nat) (c : Array Value) (d : TypeDesc)
    (hx : a.eval x = .pointer (some ⟨g, 0, none⟩)) (hg : w.heap[g]? = some (.cells c ty (0, 0))) (hu : P.underlying ty = some d) (hd : (match d with | .struct _ | .array _ _ => true | _ => false) = true) (hi : (P.info? ty).map (·.size) = some c.size) :
    (execOp a.eval o).run P w = .ok (.value (.agg c)) w := by
  unfold execOp
  simp only [ho, hx, Instr.loadAt, Instr.sureAddr, Sem.run_bind, Sem.run_pure, Result.andThen_ok, run_loadVar_row w g ty ty c (0, 0) d hg hu hd hi]
end
end Go.Proofs.YtpehdoepcpmnbaaDoor
