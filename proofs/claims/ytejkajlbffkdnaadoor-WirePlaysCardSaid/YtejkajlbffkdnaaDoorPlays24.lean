/- WirePlays returns true, for all acts. -/
import Derived.Test.YtejkajlbffkdnaaDoorActs
import Derived.Test.YtejkajlbffkdnaaDoorAlive24
import Derived.Test.YtejkajlbffkdnaaDoorPeek
import Derived.Test.YtejkajlbffkdnaaDoorLoopF
import Derived.Deep.QuietTactic
import Derived.Deep.CutRange
import Derived.Deep.CutBlock
import Derived.DeepKeys
namespace Go.Proofs.YtejkajlbffkdnaaDoor
open Go.RowKit

theorem count_equalIn (a b c : Int) (W : World) : (Op.equalIn 10000 38 (.agg #[.int .i64 a, .int .i64 b, .int .i64 c]) (.agg #[.int .i64 a, .int .i64 b, .int .i64 c])).run Tryd.prog W = .ok true W := by
  rw [run_equalIn_struct W 9999 38 _ _ (by kernel_rfl) (by kernel_rfl)]
  simp only [Program.fieldsOf, Tryd.underlying38]
  simp [Op.eqFields, go_sem, Tryd.isAgg3, Tryd.underlying3, part, Sem.run_bind, run_equalIn_int (P := Tryd.prog) W 9998 3 .i64 .i64 _ _ Tryd.underlying3]
theorem count_equal (a b c : Int) (W : World) : (Op.equal 38 (.agg #[.int .i64 a, .int .i64 b, .int .i64 c]) (.agg #[.int .i64 a, .int .i64 b, .int .i64 c])).run Tryd.prog W = .ok true W := by
  have := count_equalIn a b c W
  simpa [Op.equal, Op.maxDepth] using this
theorem count_neq_self (a b c : Int) (W : World) : (binOp .neq 38 (.agg #[.int .i64 a, .int .i64 b, .int .i64 c]) (.agg #[.int .i64 a, .int .i64 b, .int .i64 c])).run Tryd.prog W = .ok (.bool false) W := by
  rw [run_neq_struct, count_equalIn]
  rfl
end Go.Proofs.YtejkajlbffkdnaaDoor
