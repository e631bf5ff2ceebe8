/- The walks over stream.counted, stream.maker's methods. -/
import Derived.Test.YtmngcnhnpfnloaaDoorNumber
import Derived.Test.YtmngcnhnpfnloaaDoorMacN
import Derived.Test.YtmngcnhnpfnloaaDoorOnL
namespace Go.Proofs.YtmngcnhnpfnloaaDoor
open Go.RowKit

/-- A block of a key's stream. -/
def blockB (key : List UInt8) (n : Int) : List UInt8 := (hmac key (numB n)).take 8
theorem blockB_length (key : List UInt8) (n : Int) : (blockB key n).length = 8 := by rw [blockB, List.length_take, hmac_length]; rfl
def cntd (n : Int) : Bool := decide (0 ≤ n ∧ n ≤ 1099511627776)

end Go.Proofs.YtmngcnhnpfnloaaDoor
