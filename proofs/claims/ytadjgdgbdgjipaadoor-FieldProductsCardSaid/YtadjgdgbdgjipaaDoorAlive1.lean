/- baileelaw01.alive. -/
import Derived.Test.YtadjgdgbdgjipaaDoorMake
namespace Go.Proofs.YtadjgdgbdgjipaaDoor
open Go.RowKit

set_option maxHeartbeats 400000 in
theorem alive1_any (w : World) : Calls Tryd.prog 8 #[] w fun e w' => e = .returned (.bool true) ∧ Below w.heap.size w w' := by
  have hm : ((Gf.mul 2 128).toNat : Int) = 29 := by decide +kernel
  have hm := Lib.hid hm
  go_enter Tryd.func8, Tryd.ntmps8
  go_wp2_with fail
  refine (mul_any 2 128 _).mono ?_
  rintro e w1 ⟨rfl, rfl⟩
  rw [hm.out]
  go_wp2_with fail
  refine (make_any _).mono ?_
  rintro e w1 ⟨rfl, hb, ht⟩
  go_wp2_with fail
  go_ret
  exact ⟨rfl, hb⟩

end Go.Proofs.YtadjgdgbdgjipaaDoor
