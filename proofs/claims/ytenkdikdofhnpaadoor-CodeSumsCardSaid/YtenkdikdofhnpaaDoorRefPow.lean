/- Walks over baileeref01: Power, Inv, Log, Pow. -/
import Derived.Test.YtenkdikdofhnpaaDoorFieldX
import Derived.Test.YtenkdikdofhnpaaDoorRef1
namespace Go.Proofs.YtenkdikdofhnpaaDoor
open Go.RowKit

def gpow (a : UInt8) : Nat → UInt8
  | 0 => 1
  | n + 1 => Gf.mul (gpow a n) a
theorem gpow_two (n : Nat) : gpow 2 n = Gf.gexp n := by
  induction n with
  | zero => rfl
  | succ n ih => simp only [gpow, ih, Gf.mul_two]; rfl
theorem gpow_log {a : UInt8} (ha : a ≠ 0) (n : Nat) : gpow a n = Gf.gexp (Gf.glog a * n) := by
  induction n with
  | zero => rfl
  | succ n ih =>
    simp only [gpow, ih]
    conv => lhs; rw [← (Gf.glog_lt_exp a ha).2]
    rw [Gf.exp_add, (Gf.glog_lt_exp a ha).2]
    rw [Nat.mul_succ]
theorem gpow_254 {a : UInt8} (ha : a ≠ 0) : gpow a 254 = Gf.inv a := by
  rw [gpow_log ha, Gf.inv, if_neg ha, ← Gf.exp_mod, ← Gf.exp_mod (255 - Gf.glog a)]
  have := (Gf.glog_lt_exp a ha).1
  congr 1
  omega
theorem gpow_ex {a : UInt8} (ha : a ≠ 0) (n : Int) : gpow a (ex n) = Gf.gexp (ex (Gf.glog a * n)) := by
  rw [gpow_log ha, ← Gf.exp_mod]
  congr 1
  have h1 : ((Gf.glog a * ex n % 255 : Nat) : Int) = (Gf.glog a : Int) * n % 255 := by
    rw [Int.natCast_emod, Int.natCast_mul, ex_cast]
    show (Gf.glog a : Int) * (n % 255) % 255 = _
    rw [Int.mul_emod, Int.emod_emod, ← Int.mul_emod]
  unfold ex at *
  omega

theorem gpow_powI (a : UInt8) (n : Int) : (if a = 0 then (if n = 0 then 1 else 0) else gpow a (ex n)) = powI a n := by
  unfold powI
  by_cases h : a = 0
  · rw [if_pos h, if_pos h]
  · rw [if_neg h, if_neg h, gpow_ex h]

end Go.Proofs.YtenkdikdofhnpaaDoor
