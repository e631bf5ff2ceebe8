/- Walks over package field: double, Add, Mul, Sum, Dot. -/
import Derived.Test.YtenkdikdofhnpaaDoorRows
import Derived.Test.YtenkdikdofhnpaaDoorGf
import Derived.Laws.BitsAllLaws
import Derived.Outline
namespace Go.Proofs.YtenkdikdofhnpaaDoor
open Go.RowKit

theorem xor_u8 (x y : UInt8) : bits BinOp.xor IntKind.u8 (x.toNat : Int) (y.toNat : Int) = ((Gf.add x y).toNat : Int) := by
  rw [u8_xor_nat _ _ x.toNat_lt y.toNat_lt, Gf.add, UInt8.toNat_xor]
theorem u8_lt (x : UInt8) : 0 ≤ (x.toNat : Int) ∧ (x.toNat : Int) ≤ 255 := by have := x.toNat_lt; omega
theorem u8_zero : (0 : Int) = ((0 : UInt8).toNat : Int) := rfl
theorem ret_u8 {a : Int} {x : UInt8} (h : a = (x.toNat : Int)) : Ending.returned (.int .u8 a) = .returned (.int .u8 (x.toNat : Int)) := by rw [h]

theorem dbl_lo (x : UInt8) (h : (x.toNat : Int) * 2 < 256) : ((x.toNat : Int) * 2) = ((Gf.dbl x).toNat : Int) := by
  have hh := Gf.all8 (p := fun x => decide ((x.toNat : Int) * 2 < 256 → ((x.toNat : Int) * 2) = ((Gf.dbl x).toNat : Int))) (by decide +kernel) x
  exact of_decide_eq_true hh h
theorem dbl_hi (x : UInt8) (h : 256 ≤ (x.toNat : Int) * 2) : IntKind.u8.wrap (bits BinOp.xor IntKind.i64 ((x.toNat : Int) * 2) 285) = ((Gf.dbl x).toNat : Int) := by
  have hh := Gf.all8 (p := fun x => decide (256 ≤ (x.toNat : Int) * 2 → IntKind.u8.wrap (bits BinOp.xor IntKind.i64 ((x.toNat : Int) * 2) 285) = ((Gf.dbl x).toNat : Int))) (by decide +kernel) x
  exact of_decide_eq_true hh h

set_option maxRecDepth 10000 in
set_option maxHeartbeats 400000 in
theorem double_any (x : UInt8) (w : World) : Calls Tryd.prog 39 #[.int .u8 (x.toNat : Int)] w fun e w' => e = .returned (.int .u8 ((Gf.dbl x).toNat : Int)) ∧ w = w' := by
  have hx := u8_lt x
  rcases (show (x.toNat : Int) * 2 < 256 ∨ 256 ≤ (x.toNat : Int) * 2 from by omega) with h | h
  · go_enter Tryd.func39, Tryd.ntmps39
    go_wp2
    go_ret
    exact ⟨ret_u8 (dbl_lo x h), rfl⟩
  · go_enter Tryd.func39, Tryd.ntmps39
    go_wp2
    go_ret
    exact ⟨ret_u8 (dbl_hi x h), rfl⟩

theorem bit0 (y : UInt8) : (bits BinOp.and IntKind.u8 (y.toNat : Int) 1 == 1) = Gf.bit y 0 := by
  have hh := Gf.all8 (p := fun y => decide ((bits BinOp.and IntKind.u8 (y.toNat : Int) 1 == 1) = Gf.bit y 0)) (by decide +kernel) y
  exact of_decide_eq_true hh
theorem shr1 (y : UInt8) : (y.toNat : Int) / (2 : Int) = ((y >>> 1).toNat : Int) := by
  have hh := Gf.all8 (p := fun y => decide ((y.toNat : Int) / (2 : Int) = ((y >>> 1).toNat : Int))) (by decide +kernel) y
  exact of_decide_eq_true hh

end Go.Proofs.YtenkdikdofhnpaaDoor
