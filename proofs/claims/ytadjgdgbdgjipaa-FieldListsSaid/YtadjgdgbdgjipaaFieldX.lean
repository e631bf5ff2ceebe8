/- Walks over package field: Exp. -/
import Derived.Test.YtadjgdgbdgjipaaField
namespace Go.Proofs.Ytadjgdgbdgjipaa
open Go.RowKit


/-- An exponent modulo 255. -/
def ex (n : Int) : Nat := (n % 255).toNat
theorem ex_cast (n : Int) : ((ex n : Nat) : Int) = n % 255 := by unfold ex; omega
theorem ex_lt (n : Int) : ex n < 255 := by unfold ex; omega
theorem ex_go (n : Int) : (n.tmod 255 + 255) % 255 = ((ex n : Nat) : Int) := by
  rw [ex_cast]
  have h1 := Int.tmod_add_mul_tdiv n 255
  omega
theorem tmod_lo (n : Int) : -254 ≤ n.tmod 255 := by have := Int.lt_tmod_of_pos n (b := 255) (by omega); omega
theorem tmod_hi (n : Int) : n.tmod 255 ≤ 254 := by have := Int.tmod_lt_of_pos n (b := 255) (by omega); omega

end Go.Proofs.Ytadjgdgbdgjipaa
