/- Walks over package field: Exp. -/
import Derived.Test.YtenkdikdofhnpaaDoorField
namespace Go.Proofs.YtenkdikdofhnpaaDoor
open Go.RowKit


/-- An exponent modulo 255. -/
def ex (n : Int) : Nat := (n % 255).toNat
theorem ex_cast (n : Int) : ((ex n : Nat) : Int) = n % 255 := by unfold ex; omega
theorem ex_lt (n : Int) : ex n < 255 := by unfold ex; omega
theorem ex_go (n : Int) : (n.tmod 255 + 255) % 255 = ((ex n : Nat) : Int) := by
  rw [ex_cast]
  have h1 := Int.tmod_add_mul_tdiv n 255
  omega
theorem tmod_lo (n : Int) : -254 ≤ n.tmod 255 := by have := Int.lt_tmod_of_pos n (b := 255) (by omega); omega
theorem tmod_hi (n : Int) : n.tmod 255 ≤ 254 := by have := Int.tmod_lt_of_pos n (b := 255) (by omega); omega

set_option maxHeartbeats 400000 in
theorem exp_any (n : Int) (w : World) : Calls Tryd.prog 36 #[.int .i64 n] w fun e w' => e = .returned (.int .u8 ((Gf.gexp (ex n)).toNat : Int)) ∧ w = w' := by
  have h1 := tmod_lo n
  have h2 := tmod_hi n
  have h3 := ex_lt n
  go_enter Tryd.func36, Tryd.ntmps36
  go_wp2_with fail
  clear h1 h2
  rw [ex_go]
  go_loop [3, 8] (fun x j => ∃ k : Nat, k ≤ ex n ∧ j = .int .i64 k ∧ x = .int .u8 ((Gf.gexp k).toNat : Int)) (fun _ j => ex n - (intOf j).toNat)
  case atStart => exact ⟨0, Nat.zero_le _, rfl, rfl⟩
  case round =>
    obtain ⟨k, hk, rfl, rfl⟩ := hrel
    by_cases hlt : k < ex n
    · go_wp2_with fail
      refine (double_any (Gf.gexp k) _).mono ?_
      rintro e w1 ⟨rfl, rfl⟩
      go_wp2_with fail
      exact ⟨⟨k + 1, by omega, by go_num, rfl⟩, by simp [intOf]; omega⟩
    · obtain rfl : k = ex n := by omega
      go_wp2_with fail
      go_ret
      exact ⟨rfl, rfl⟩

theorem ex_add (i j : Int) : Gf.gexp (ex i + ex j) = Gf.gexp (ex (i + j)) := by
  rw [← Gf.exp_mod (ex i + ex j)]
  congr 1
  unfold ex
  omega
theorem ex_of_lt (i : Int) (h0 : 0 ≤ i) : Gf.gexp (ex i) = Gf.gexp i.toNat := by
  rw [← Gf.exp_mod i.toNat]
  congr 1
  unfold ex
  omega
theorem glog_gexp (n : Nat) : Gf.glog (Gf.gexp n) = n % 255 := by
  rw [← Gf.exp_mod n]
  exact Gf.glog_exp _ (Nat.mod_lt _ (by omega))

theorem exp_ne_of {a : UInt8} {k : Nat} (h : k < Gf.glog a) (ha : a ≠ 0) : (((Gf.gexp k).toNat : Int) != (a.toNat : Int)) = true := by
  have h1 := Gf.glog_lt_exp a ha
  rw [bne_iff_ne]
  intro e
  have e2 : Gf.gexp k = a := UInt8.toNat_inj.1 (by omega)
  have e3 := Gf.glog_exp k (by omega)
  rw [e2] at e3
  omega

/-- A power, of any exponent. -/
def powI (a : UInt8) (n : Int) : UInt8 := if a = 0 then (if n = 0 then 1 else 0) else Gf.gexp (ex (Gf.glog a * n))

theorem u8_ne {a : UInt8} (h : a ≠ 0) : ((a.toNat : Int) == 0) = false := by
  rw [beq_eq_false_iff_ne]
  intro e
  exact h (UInt8.toNat_inj.1 (by simp; omega))

end Go.Proofs.YtenkdikdofhnpaaDoor
