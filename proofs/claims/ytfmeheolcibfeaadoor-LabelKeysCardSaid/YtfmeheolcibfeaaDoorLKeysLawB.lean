/- The law LabelKeys, as its frame asks for it. -/
import Derived.Test.YtfmeheolcibfeaaDoorLKeysLaw
namespace Go.Proofs.YtfmeheolcibfeaaDoor
open Go.RowKit

theorem lkeys_law (a1 : Option Addr) (c1 : Nat) (key : List UInt8) (s : ByteArray) (n : Int) (w : World) (h1 : ArgB w a1 c1 key) (hs : s.size ≤ 9223372036854775807) (hn : (Lit.int IntKind.i64 n).wf = true)
    (z : Nat → Addr) (er : Errs 129 errGs w z) (hK : ShaK w) (hF : ShaF w) (hRK : RefK w) (hRF : RefF w) :
    Calls Tryd.prog 3 #[.slice a1 key.length c1, .string s, .int .i64 n] w fun e w' => e = .returned (.bool true) ∧ Below w.heap.size w w' := by
  have hx : -9223372036854775808 ≤ n ∧ n ≤ 9223372036854775807 := by simpa [Lit.wf, IntKind.min, IntKind.max, IntKind.signed, IntKind.bits] using hn
  exact lkeys_walk a1 c1 key s n z w h1 hs hx.1 hx.2 ⟨hK, hF, hRK, hRF, er⟩

end Go.Proofs.YtfmeheolcibfeaaDoor
