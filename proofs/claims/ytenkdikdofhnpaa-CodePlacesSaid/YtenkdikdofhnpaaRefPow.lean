/- Walks over baileeref01: Power, Inv, Log, Pow. -/
import Derived.Test.YtenkdikdofhnpaaFieldX
import Derived.Test.YtenkdikdofhnpaaRef1
namespace Go.Proofs.Ytenkdikdofhnpaa
open Go.RowKit

def gpow (a : UInt8) : Nat → UInt8
  | 0 => 1
  | n + 1 => Gf.mul (gpow a n) a
theorem gpow_two (n : Nat) : gpow 2 n = Gf.gexp n := by
  induction n with
  | zero => rfl
  | succ n ih => simp only [gpow, ih, Gf.mul_two]; rfl
theorem gpow_log {a : UInt8} (ha : a ≠ 0) (n : Nat) : gpow a n = Gf.gexp (Gf.glog a * n) := by
  induction n with
  | zero => rfl
  | succ n ih =>
    simp only [gpow, ih]
    conv => lhs; rw [← (Gf.glog_lt_exp a ha).2]
    rw [Gf.exp_add, (Gf.glog_lt_exp a ha).2]
    rw [Nat.mul_succ]
theorem gpow_254 {a : UInt8} (ha : a ≠ 0) : gpow a 254 = Gf.inv a := by
  rw [gpow_log ha, Gf.inv, if_neg ha, ← Gf.exp_mod, ← Gf.exp_mod (255 - Gf.glog a)]
  have := (Gf.glog_lt_exp a ha).1
  congr 1
  omega
theorem gpow_ex {a : UInt8} (ha : a ≠ 0) (n : Int) : gpow a (ex n) = Gf.gexp (ex (Gf.glog a * n)) := by
  rw [gpow_log ha, ← Gf.exp_mod]
  congr 1
  have h1 : ((Gf.glog a * ex n % 255 : Nat) : Int) = (Gf.glog a : Int) * n % 255 := by
    rw [Int.natCast_emod, Int.natCast_mul, ex_cast]
    show (Gf.glog a : Int) * (n % 255) % 255 = _
    rw [Int.mul_emod, Int.emod_emod, ← Int.mul_emod]
  unfold ex at *
  omega

set_option maxHeartbeats 400000 in
theorem power_any (a : UInt8) (n : Nat) (hn : n ≤ 100000) (w : World) : Calls Try.prog 10 #[.int .u8 (a.toNat : Int), .int .i64 (n : Int)] w fun e w' => e = .returned (.int .u8 ((gpow a n).toNat : Int)) ∧ w = w' := by
  go_enter Try.func10, Try.ntmps10
  go_wp2_with fail
  go_loop [1, 5] (fun j o => ∃ k : Nat, k ≤ n ∧ j = .int .i64 ((n - k : Nat) : Int) ∧ o = .int .u8 ((gpow a k).toNat : Int)) (fun j _ => (intOf j).toNat)
  case atStart => exact ⟨0, Nat.zero_le _, rfl, rfl⟩
  case round =>
    obtain ⟨k, hk, rfl, rfl⟩ := hrel
    by_cases hlt : k < n
    · have h0 : (0 : Int) < ((n - k : Nat) : Int) := by omega
      obtain ⟨m, hm⟩ : ∃ m, m = n - k := ⟨_, rfl⟩
      have hm1 : m = (n - (k + 1)) + 1 := by omega
      replace hm1 := Lib.hid hm1
      rw [← hm] at h0 ⊢
      clear hm
      go_wp2_with fail
      refine (refmul_any (gpow a k) a _).mono ?_
      rintro e w1 ⟨rfl, rfl⟩
      have hm2 := hm1.out
      go_wp2_with fail
      exact ⟨⟨k + 1, by omega, by go_num, rfl⟩, by simp only [intOf]; omega⟩
    · obtain rfl : k = n := by omega
      have h0 : ((k - k : Nat) : Int) = 0 := by omega
      rw [h0]
      go_wp2_with fail
      go_ret
      exact ⟨rfl, rfl⟩

theorem gpow_powI (a : UInt8) (n : Int) : (if a = 0 then (if n = 0 then 1 else 0) else gpow a (ex n)) = powI a n := by
  unfold powI
  by_cases h : a = 0
  · rw [if_pos h, if_pos h]
  · rw [if_neg h, if_neg h, gpow_ex h]

end Go.Proofs.Ytenkdikdofhnpaa
