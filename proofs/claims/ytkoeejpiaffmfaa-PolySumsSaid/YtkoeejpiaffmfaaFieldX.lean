/- Walks over package field: Exp. -/
import Derived.Test.YtkoeejpiaffmfaaField
namespace Go.Proofs.Ytkoeejpiaffmfaa
open Go.RowKit


/-- An exponent modulo 255. -/
def ex (n : Int) : Nat := (n % 255).toNat
theorem ex_cast (n : Int) : ((ex n : Nat) : Int) = n % 255 := by unfold ex; omega
theorem ex_lt (n : Int) : ex n < 255 := by unfold ex; omega
theorem ex_go (n : Int) : (n.tmod 255 + 255) % 255 = ((ex n : Nat) : Int) := by
  rw [ex_cast]
  have h1 := Int.tmod_add_mul_tdiv n 255
  omega
theorem tmod_lo (n : Int) : -254 ≤ n.tmod 255 := by have := Int.lt_tmod_of_pos n (b := 255) (by omega); omega
theorem tmod_hi (n : Int) : n.tmod 255 ≤ 254 := by have := Int.tmod_lt_of_pos n (b := 255) (by omega); omega

theorem ex_add (i j : Int) : Gf.gexp (ex i + ex j) = Gf.gexp (ex (i + j)) := by
  rw [← Gf.exp_mod (ex i + ex j)]
  congr 1
  unfold ex
  omega
theorem ex_of_lt (i : Int) (h0 : 0 ≤ i) : Gf.gexp (ex i) = Gf.gexp i.toNat := by
  rw [← Gf.exp_mod i.toNat]
  congr 1
  unfold ex
  omega
theorem glog_gexp (n : Nat) : Gf.glog (Gf.gexp n) = n % 255 := by
  rw [← Gf.exp_mod n]
  exact Gf.glog_exp _ (Nat.mod_lt _ (by omega))

theorem exp_ne_of {a : UInt8} {k : Nat} (h : k < Gf.glog a) (ha : a ≠ 0) : (((Gf.gexp k).toNat : Int) != (a.toNat : Int)) = true := by
  have h1 := Gf.glog_lt_exp a ha
  rw [bne_iff_ne]
  intro e
  have e2 : Gf.gexp k = a := UInt8.toNat_inj.1 (by omega)
  have e3 := Gf.glog_exp k (by omega)
  rw [e2] at e3
  omega

/-- A power, of any exponent. -/
def powI (a : UInt8) (n : Int) : UInt8 := if a = 0 then (if n = 0 then 1 else 0) else Gf.gexp (ex (Gf.glog a * n))

theorem u8_ne {a : UInt8} (h : a ≠ 0) : ((a.toNat : Int) == 0) = false := by
  rw [beq_eq_false_iff_ne]
  intro e
  exact h (UInt8.toNat_inj.1 (by simp; omega))

end Go.Proofs.Ytkoeejpiaffmfaa
