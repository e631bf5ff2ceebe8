/- The walks over baileeref10.Block, Number. -/
import Derived.Test.YtmngcnhnpfnloaaDoorStream
import Derived.Test.YtmngcnhnpfnloaaDoorTagR
namespace Go.Proofs.YtmngcnhnpfnloaaDoor
open Go.RowKit

theorem add_byte64w (x : Nat) (c : UInt8) (hx : x < 72057594037927936) : IntKind.u64.wrap (IntKind.u64.wrap ((x : Int) * 256) + IntKind.u64.wrap (c.toNat : Int)) = ((x * 256 + c.toNat : Nat) : Int) := by
  have hc := c.toNat_lt
  rw [IntWalk.u64_in ((x : Int) * 256) (by omega), IntWalk.u64_in (c.toNat : Int) (by omega), IntWalk.u64_in _ (by omega)]
  omega

end Go.Proofs.YtmngcnhnpfnloaaDoor
