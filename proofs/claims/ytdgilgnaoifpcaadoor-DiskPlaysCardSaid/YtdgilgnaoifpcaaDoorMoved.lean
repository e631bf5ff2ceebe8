/- Where a row lies behind an append: as before, or in a new block. Of whatever program. -/
import Derived.Test.YtdgilgnaoifpcaaDoorMem
namespace Go.Proofs.YtdgilgnaoifpcaaDoor
open Go.RowKit

/-- The row lies where it lay, or in a block that is new since w. -/
def Moved (w : World) (v v' : Value) : Prop := ∀ k, v'.ownBlock = some k → v.ownBlock = some k ∨ w.heap.size ≤ k
theorem Moved.trans {w w1 : World} {v v1 v2 : Value} (h : Moved w v v1) (h' : Moved w1 v1 v2) (hs : w.heap.size ≤ w1.heap.size) : Moved w v v2 := by
  intro k hk
  rcases h' k hk with h1 | h1
  · exact h k h1
  · exact .inr (by omega)
end Go.Proofs.YtdgilgnaoifpcaaDoor
