/- Walks over baileeref01: Power, Inv, Log, Pow. -/
import Derived.Test.YtadjgdgbdgjipaaDoorFieldX
import Derived.Test.YtadjgdgbdgjipaaDoorRef1
namespace Go.Proofs.YtadjgdgbdgjipaaDoor
open Go.RowKit

def gpow (a : UInt8) : Nat → UInt8
  | 0 => 1
  | n + 1 => Gf.mul (gpow a n) a
theorem gpow_two (n : Nat) : gpow 2 n = Gf.gexp n := by
  induction n with
  | zero => rfl
  | succ n ih => simp only [gpow, ih, Gf.mul_two]; rfl
theorem gpow_log {a : UInt8} (ha : a ≠ 0) (n : Nat) : gpow a n = Gf.gexp (Gf.glog a * n) := by
  induction n with
  | zero => rfl
  | succ n ih =>
    simp only [gpow, ih]
    conv => lhs; rw [← (Gf.glog_lt_exp a ha).2]
    rw [Gf.exp_add, (Gf.glog_lt_exp a ha).2]
    rw [Nat.mul_succ]
theorem gpow_254 {a : UInt8} (ha : a ≠ 0) : gpow a 254 = Gf.inv a := by
  rw [gpow_log ha, Gf.inv, if_neg ha, ← Gf.exp_mod, ← Gf.exp_mod (255 - Gf.glog a)]
  have := (Gf.glog_lt_exp a ha).1
  congr 1
  omega
theorem gpow_ex {a : UInt8} (ha : a ≠ 0) (n : Int) : gpow a (ex n) = Gf.gexp (ex (Gf.glog a * n)) := by
  rw [gpow_log ha, ← Gf.exp_mod]
  congr 1
  have h1 : ((Gf.glog a * ex n % 255 : Nat) : Int) = (Gf.glog a : Int) * n % 255 := by
    rw [Int.natCast_emod, Int.natCast_mul, ex_cast]
    show (Gf.glog a : Int) * (n % 255) % 255 = _
    rw [Int.mul_emod, Int.emod_emod, ← Int.mul_emod]
  unfold ex at *
  omega

set_option maxHeartbeats 400000 in
theorem power_any (a : UInt8) (n : Nat) (hn : n ≤ 100000) (w : World) : Calls Tryd.prog 20 #[.int .u8 (a.toNat : Int), .int .i64 (n : Int)] w fun e w' => e = .returned (.int .u8 ((gpow a n).toNat : Int)) ∧ w = w' := by
  go_enter Tryd.func20, Tryd.ntmps20
  go_wp2_with fail
  go_loop [1, 5] (fun j o => ∃ k : Nat, k ≤ n ∧ j = .int .i64 ((n - k : Nat) : Int) ∧ o = .int .u8 ((gpow a k).toNat : Int)) (fun j _ => (intOf j).toNat)
  case atStart => exact ⟨0, Nat.zero_le _, rfl, rfl⟩
  case round =>
    obtain ⟨k, hk, rfl, rfl⟩ := hrel
    by_cases hlt : k < n
    · have h0 : (0 : Int) < ((n - k : Nat) : Int) := by omega
      obtain ⟨m, hm⟩ : ∃ m, m = n - k := ⟨_, rfl⟩
      have hm1 : m = (n - (k + 1)) + 1 := by omega
      replace hm1 := Lib.hid hm1
      rw [← hm] at h0 ⊢
      clear hm
      go_wp2_with fail
      refine (refmul_any (gpow a k) a _).mono ?_
      rintro e w1 ⟨rfl, rfl⟩
      have hm2 := hm1.out
      go_wp2_with fail
      exact ⟨⟨k + 1, by omega, by go_num, rfl⟩, by simp only [intOf]; omega⟩
    · obtain rfl : k = n := by omega
      have h0 : ((k - k : Nat) : Int) = 0 := by omega
      rw [h0]
      go_wp2_with fail
      go_ret
      exact ⟨rfl, rfl⟩

set_option maxHeartbeats 400000 in
theorem refinv_any (a : UInt8) (w : World) : Calls Tryd.prog 27 #[.int .u8 (a.toNat : Int)] w fun e w' => e = .returned (.int .u8 ((gpow a 254).toNat : Int)) ∧ w = w' := by
  go_enter Tryd.func27, Tryd.ntmps27
  go_wp2_with fail
  refine (power_any a 254 (by omega) _).mono ?_
  rintro e w1 ⟨rfl, rfl⟩
  go_wp2_with fail
  go_ret
  exact ⟨rfl, rfl⟩

set_option maxRecDepth 10000 in
set_option maxHeartbeats 400000 in
theorem reflog_any (a : UInt8) (ha : a ≠ 0) (w : World) : Calls Tryd.prog 19 #[.int .u8 (a.toNat : Int)] w fun e w' => e = .returned (.int .i64 (Gf.glog a : Int)) ∧ w = w' := by
  have h1 := (Gf.glog_lt_exp a ha).1
  go_enter Tryd.func19, Tryd.ntmps19
  go_wp2_with fail
  go_loop [3, 4] (fun x j => ∃ k : Nat, k ≤ Gf.glog a ∧ j = .int .i64 k ∧ x = .int .u8 ((Gf.gexp k).toNat : Int)) (fun _ j => Gf.glog a - (intOf j).toNat)
  case atStart => exact ⟨0, Nat.zero_le _, rfl, rfl⟩
  case round =>
    obtain ⟨k, hk, rfl, rfl⟩ := hrel
    by_cases hlt : k < Gf.glog a
    · have hne : (((Gf.gexp k).toNat : Int) == (a.toNat : Int)) = false := by
        have := exp_ne_of hlt ha
        rw [bne_iff_ne] at this
        rw [beq_eq_false_iff_ne]; exact this
      have h2 := Gf.mul_two (Gf.gexp k)
      replace h2 := Lib.hid h2
      go_wp2_with fail
      refine (refmul_any (Gf.gexp k) 2 _).mono ?_
      rintro e w1 ⟨rfl, rfl⟩
      rw [h2.out]
      go_wp2_with fail
      exact ⟨⟨k + 1, by omega, by go_num, rfl⟩, by simp [intOf]; omega⟩
    · obtain rfl : k = Gf.glog a := by omega
      have he := (Gf.glog_lt_exp a ha).2
      go_wp2_with fail
      go_ret
      exact ⟨rfl, rfl⟩

theorem gpow_powI (a : UInt8) (n : Int) : (if a = 0 then (if n = 0 then 1 else 0) else gpow a (ex n)) = powI a n := by
  unfold powI
  by_cases h : a = 0
  · rw [if_pos h, if_pos h]
  · rw [if_neg h, if_neg h, gpow_ex h]

set_option maxHeartbeats 400000 in
theorem refpow_any (a : UInt8) (n : Int) (w : World) : Calls Tryd.prog 21 #[.int .u8 (a.toNat : Int), .int .i64 n] w fun e w' => e = .returned (.int .u8 ((powI a n).toNat : Int)) ∧ w = w' := by
  rw [← gpow_powI]
  by_cases h : a = 0
  · have h0 : ((a.toNat : Int) == 0) = true := by rw [h]; rfl
    rw [if_pos h]
    clear h
    by_cases hn : n = 0
    · rw [if_pos hn]
      subst hn
      go_enter Tryd.func21, Tryd.ntmps21
      go_wp2_with fail
      go_ret
      exact ⟨rfl, rfl⟩
    · rw [if_neg hn]
      have hn' : (n == 0) = false := by simpa using hn
      clear hn
      go_enter Tryd.func21, Tryd.ntmps21
      go_wp2_with fail
      go_ret
      exact ⟨rfl, rfl⟩
  · have h0 := u8_ne h
    rw [if_neg h]
    have hx := ex_lt n
    clear h
    go_enter Tryd.func21, Tryd.ntmps21
    go_wp2_with fail
    refine (rest_any n _).mono ?_
    rintro e w1 ⟨rfl, rfl⟩
    go_wp2_with fail
    refine (power_any a (ex n) (by omega) _).mono ?_
    rintro e w1 ⟨rfl, rfl⟩
    go_wp2_with fail
    go_ret
    exact ⟨rfl, rfl⟩

end Go.Proofs.YtadjgdgbdgjipaaDoor
