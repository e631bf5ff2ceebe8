/- The walk over baileeref08.Tag; the mac's example. -/
import Derived.Test.YtfmeheolcibfeaaDoorRefM
import Derived.Test.YtfmeheolcibfeaaDoorConv
import Derived.Test.YtfmeheolcibfeaaDoorShaCalc
namespace Go.Proofs.YtfmeheolcibfeaaDoor
open Go.RowKit

theorem argBB_nil (w : World) : ArgBB w none 0 [] := ⟨Nat.le_refl _, Nat.zero_le _, fun _ => rfl, fun i hi => absurd hi (Nat.not_lt_zero i)⟩
theorem argB_nil (w : World) : ArgB w none 0 [] := ⟨Nat.le_refl _, Nat.zero_le _, fun _ => rfl, fun i hi => absurd hi (Nat.not_lt_zero i)⟩

end Go.Proofs.YtfmeheolcibfeaaDoor
