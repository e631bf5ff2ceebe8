/- Two results: a struct or an array that lies in a block, and one that lies in a slot. -/
import Derived.Test.YtpehdoepcpmnbaaDoorRetRow
namespace Go.Proofs.YtpehdoepcpmnbaaDoor
open Go.RowKit
section
variable {P : Program} {fn : Func} {R : Ending → World → Prop} {p q : Tmp} {ty : TypeId}
theorem results_cell_tmpB (h : fn.results = #[.cell p ty, .tmp q]) (tmps : Array Value) (w : World) :
    (results fn tmps).run P w = ((asAddr (tmps.getD p undef)).run P w).andThen fun a w₁ => ((loadVar ty a).run P w₁).andThen fun v w₂ => .ok (.tuple #[v, tmps.getD q undef]) w₂ := by
  simp [results, h, Sem.run_bind, Result.andThen]
theorem ret_cell_tmpB {tmps : Array Value} {W : World} {b : Nat} {c : Array Value} {d : TypeDesc} (h : fn.results = #[.cell p ty, .tmp q])
    (hp : tmps.getD p undef = .pointer (some ⟨b, 0, none⟩)) (hu : P.underlying ty = some d) (hd : (match d with | .struct _ | .array _ _ => true | _ => false) = true) (hi : (P.info? ty).map (·.size) = some c.size) (hh : W.heap[b]? = some (.cells c ty (0, 0))) (hR : R (.returned (.tuple #[.agg c, tmps.getD q undef])) W) :
    bodyPost P fn R .ret ⟨tmps, []⟩ W := by
  refine bodyPost_ret (v := .tuple #[.agg c, tmps.getD q undef]) ?_ rfl hR
  rw [results_cell_tmpB h, hp]
  simp [asAddr, Result.andThen, run_loadVar_row W b ty ty c (0, 0) d hh hu hd hi]
end
/-- A sentinel lies in its variable. -/
def SentAt (g : Nat) (w : World) (z : Addr) : Prop := w.cell? ⟨g, 0, none⟩ = some (.iface 177 (.pointer (some z)))
theorem SentAt.below {g : Nat} {w w' : World} {z : Addr} (h : SentAt g w z) (hb : Below w.heap.size w w') : SentAt g w' z := (hb.cell (World.block_lt_of_cell? w _ h)).trans h
theorem SentAt.far {g : Nat} {w : World} {z : Addr} (h : SentAt g w z) : ∀ W, Below w.heap.size w W → W.cell? ⟨g, 0, none⟩ = some (.iface 177 (.pointer (some z))) := fun _ hW => h.below hW
end Go.Proofs.YtpehdoepcpmnbaaDoor
