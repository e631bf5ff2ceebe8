/- DiskKeeps: the walk, in the frame's words. -/
import Derived.Test.YtdgilgnaoifpcaaDoorKeepsW
import Derived.Test.YtdgilgnaoifpcaaDoorOpenD
namespace Go.Proofs.YtdgilgnaoifpcaaDoor
open Go.RowKit
theorem keeps_law (a0 : Option Addr) (_cap : Nat) (xs : List ActD) (kept torn : Int) (s : Nat) (at0 : Int) (W : World) (hA : ArgA W a0 xs) (h1 : inI64 kept) (h2 : inI64 torn) (h3 : s < 18446744073709551616) (h4 : (Lit.int .i64 at0).wf = true) (e : Nat → Addr) (hE : Errs 96 [0, 1, 2] W e) :
    Calls Tryd.prog 3 #[.slice a0 xs.length _cap, .agg #[.int .i64 kept, .int .i64 torn, .int .u64 (s : Int)], .int .i64 at0] W fun x w' => x = .returned (.bool true) ∧ Below W.heap.size W w' :=
  keeps_walk a0 _cap xs W hA kept torn s at0 h1 h2 h3 (wf64 h4) e ⟨hE.var 0 (by decide), hE.var 1 (by decide), hE.var 2 (by decide)⟩
end Go.Proofs.YtdgilgnaoifpcaaDoor
