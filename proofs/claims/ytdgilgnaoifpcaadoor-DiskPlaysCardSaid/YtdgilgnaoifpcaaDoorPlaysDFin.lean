/- DiskPlays' walk in the frame's words. -/
import Derived.Test.YtdgilgnaoifpcaaDoorPlaysD
namespace Go.Proofs.YtdgilgnaoifpcaaDoor
open Go.RowKit
theorem playsD_law (sectors : Int) (a0 : Option Addr) (cap : Nat) (xs : List ActD) (W : World) (_h0 : (Lit.int .i64 sectors).wf = true) (hA : ArgA W a0 xs) (ea : Nat → Addr) (H : Errs 96 errGs W ea) :
    Calls Tryd.prog 4 #[.int .i64 sectors, .slice a0 xs.length cap] W fun x w' => x = .returned (.bool true) ∧ Below W.heap.size W w' := playsD_walk sectors a0 cap xs W hA ea H
end Go.Proofs.YtdgilgnaoifpcaaDoor
