/- Walks over package field: Log, Inv, Div, Pow. -/
import Derived.Test.YtadjgdgbdgjipaaDoorFieldX
import Derived.Test.YtadjgdgbdgjipaaDoorSent
namespace Go.Proofs.YtadjgdgbdgjipaaDoor
open Go.RowKit


set_option maxHeartbeats 400000 in
theorem log_zero (z : Addr) (w : World) (hz : w.cell? ⟨0, 0, none⟩ = some (.iface 64 (.pointer (some z)))) : Calls Tryd.prog 16 #[.int .u8 0] w fun e w' => e = .returned (.tuple #[.int .i64 0, .iface 64 (.pointer (some z))]) ∧ ∃ n, w' = w.drewN n := by
  go_enter Tryd.func16, Tryd.ntmps16
  go_wp2_with fail
  go_quiet (fail)
  go_wp2
  go_ret2
  exact ⟨rfl, _, rfl⟩

set_option maxHeartbeats 400000 in
theorem log_some (a : UInt8) (ha : a ≠ 0) (w : World) : Calls Tryd.prog 16 #[.int .u8 (a.toNat : Int)] w fun e w' => e = .returned (.tuple #[.int .i64 (Gf.glog a : Int), .nilIface]) ∧ w = w' := by
  have h0 : ((a.toNat : Int) == 0) = false := by
    rw [beq_eq_false_iff_ne]
    intro e
    exact ha (UInt8.toNat_inj.1 (by simp; omega))
  have h1 := (Gf.glog_lt_exp a ha).1
  go_enter Tryd.func16, Tryd.ntmps16
  go_wp2_with fail
  go_loop [4, 5] (fun j x => ∃ k : Nat, k ≤ Gf.glog a ∧ j = .int .i64 k ∧ x = .int .u8 ((Gf.gexp k).toNat : Int)) (fun j _ => Gf.glog a - (intOf j).toNat)
  case atStart => exact ⟨0, Nat.zero_le _, rfl, rfl⟩
  case round =>
    obtain ⟨k, hk, rfl, rfl⟩ := hrel
    by_cases hlt : k < Gf.glog a
    · have hne := exp_ne_of hlt ha
      go_wp2_with fail
      refine (double_any (Gf.gexp k) _).mono ?_
      rintro e w1 ⟨rfl, rfl⟩
      go_wp2_with fail
      exact ⟨⟨k + 1, by omega, by go_num, rfl⟩, by simp [intOf]; omega⟩
    · obtain rfl : k = Gf.glog a := by omega
      have he := (Gf.glog_lt_exp a ha).2
      go_wp2_with fail
      go_ret2
      exact ⟨rfl, rfl⟩

theorem ex_neg (a : UInt8) (ha : a ≠ 0) : Gf.gexp (ex (-(Gf.glog a : Int))) = Gf.inv a := by
  have h1 := (Gf.glog_lt_exp a ha).1
  unfold Gf.inv
  rw [if_neg ha, ← Gf.exp_mod (255 - Gf.glog a)]
  congr 1
  unfold ex
  omega

set_option maxHeartbeats 400000 in
theorem inv_zero (z : Addr) (w : World) (hz : w.cell? ⟨0, 0, none⟩ = some (.iface 64 (.pointer (some z)))) : Calls Tryd.prog 11 #[.int .u8 0] w fun e w' => e = .returned (.tuple #[.int .u8 0, .iface 64 (.pointer (some z))]) ∧ ∃ n, w' = w.drewN n := by
  go_enter Tryd.func11, Tryd.ntmps11
  go_wp2_with fail
  refine (log_zero z _ hz).mono ?_
  rintro e w1 ⟨rfl, n, rfl⟩
  go_wp2_with fail
  go_ret2
  exact ⟨rfl, _, rfl⟩

set_option maxHeartbeats 400000 in
theorem inv_some (a : UInt8) (ha : a ≠ 0) (w : World) : Calls Tryd.prog 11 #[.int .u8 (a.toNat : Int)] w fun e w' => e = .returned (.tuple #[.int .u8 ((Gf.inv a).toNat : Int), .nilIface]) ∧ w = w' := by
  have h1 := (Gf.glog_lt_exp a ha).1
  go_enter Tryd.func11, Tryd.ntmps11
  go_wp2_with fail
  refine (log_some a ha _).mono ?_
  rintro e w1 ⟨rfl, rfl⟩
  go_wp2_with fail
  refine (exp_any _ _).mono ?_
  rintro e w1 ⟨rfl, rfl⟩
  rw [ex_neg a ha]
  go_wp2_with fail
  go_ret2
  exact ⟨rfl, rfl⟩

set_option maxHeartbeats 400000 in
theorem div_zero (a : UInt8) (z : Addr) (w : World) (hz : w.cell? ⟨0, 0, none⟩ = some (.iface 64 (.pointer (some z)))) : Calls Tryd.prog 25 #[.int .u8 (a.toNat : Int), .int .u8 0] w fun e w' => e = .returned (.tuple #[.int .u8 0, .iface 64 (.pointer (some z))]) ∧ ∃ n, w' = w.drewN n := by
  go_enter Tryd.func25, Tryd.ntmps25
  go_wp2_with fail
  refine (inv_zero z _ hz).mono ?_
  rintro e w1 ⟨rfl, n, rfl⟩
  go_wp2_with fail
  go_ret2
  exact ⟨rfl, _, rfl⟩

set_option maxHeartbeats 400000 in
theorem div_some (a b : UInt8) (hb : b ≠ 0) (w : World) : Calls Tryd.prog 25 #[.int .u8 (a.toNat : Int), .int .u8 (b.toNat : Int)] w fun e w' => e = .returned (.tuple #[.int .u8 ((Gf.mul a (Gf.inv b)).toNat : Int), .nilIface]) ∧ w = w' := by
  go_enter Tryd.func25, Tryd.ntmps25
  go_wp2_with fail
  refine (inv_some b hb _).mono ?_
  rintro e w1 ⟨rfl, rfl⟩
  go_wp2_with fail
  refine (mul_any _ _ _).mono ?_
  rintro e w1 ⟨rfl, rfl⟩
  go_wp2_with fail
  go_ret2
  exact ⟨rfl, rfl⟩

theorem ex_tmod (k : Nat) (n : Int) : ex (k * n.tmod 255) = ex (k * n) := by
  have h1 := Int.tmod_add_mul_tdiv n 255
  have h2 : (k : Int) * n = k * n.tmod 255 + 255 * (k * n.tdiv 255) := by
    conv => lhs; rw [← h1]
    rw [Int.mul_add, Int.mul_left_comm]
  unfold ex
  rw [h2, Int.add_mul_emod_self_left]

set_option maxHeartbeats 400000 in
theorem pow_zero (n : Int) (z : Addr) (w : World) (hz : w.cell? ⟨0, 0, none⟩ = some (.iface 64 (.pointer (some z)))) : Calls Tryd.prog 14 #[.int .u8 0, .int .i64 n] w fun e w' => e = .returned (.int .u8 ((powI 0 n).toNat : Int)) ∧ ∃ k, w' = w.drewN k := by
  by_cases h : n = 0
  · rw [show powI 0 n = 1 from by simp [powI, h]]
    subst h
    go_enter Tryd.func14, Tryd.ntmps14
    go_wp2_with fail
    refine (log_zero z _ hz).mono ?_
    rintro e w1 ⟨rfl, k, rfl⟩
    go_wp2_with fail
    go_ret
    exact ⟨rfl, _, rfl⟩
  · rw [show powI 0 n = 0 from by simp [powI, h]]
    have h' : (n == 0) = false := by simpa using h
    clear h
    go_enter Tryd.func14, Tryd.ntmps14
    go_wp2_with fail
    refine (log_zero z _ hz).mono ?_
    rintro e w1 ⟨rfl, k, rfl⟩
    go_wp2_with fail
    go_ret
    exact ⟨rfl, _, rfl⟩

theorem mul_bd (k : Nat) (m : Int) (hk : k < 255) (h1 : -254 ≤ m) (h2 : m ≤ 254) : -64770 ≤ (k : Int) * m ∧ (k : Int) * m ≤ 64770 := by
  have a1 : (k : Int) * m ≤ k * 254 := Int.mul_le_mul_of_nonneg_left h2 (by omega)
  have a2 : (k : Int) * (-254) ≤ k * m := Int.mul_le_mul_of_nonneg_left h1 (by omega)
  omega

set_option maxHeartbeats 400000 in
theorem pow_some (a : UInt8) (n : Int) (ha : a ≠ 0) (w : World) : Calls Tryd.prog 14 #[.int .u8 (a.toNat : Int), .int .i64 n] w fun e w' => e = .returned (.int .u8 ((powI a n).toNat : Int)) ∧ w = w' := by
  rw [show powI a n = Gf.gexp (ex (Gf.glog a * n)) from by simp [powI, ha], ← ex_tmod]
  have h1 := tmod_lo n
  have h2 := tmod_hi n
  have h3 := (Gf.glog_lt_exp a ha).1
  have h4 := mul_bd _ _ h3 h1 h2
  have h5 : wrap64 ((Gf.glog a : Int) * n.tmod 255) = (Gf.glog a : Int) * n.tmod 255 := IntWalk.wrap64_in _ (by omega)
  go_enter Tryd.func14, Tryd.ntmps14
  go_wp2_with fail
  refine (log_some a ha _).mono ?_
  rintro e w1 ⟨rfl, rfl⟩
  go_wp2_with fail
  refine (exp_any _ _).mono ?_
  rintro e w1 ⟨rfl, rfl⟩
  go_wp2_with fail
  go_ret
  exact ⟨rfl, rfl⟩

theorem log_err (a : UInt8) (ha : a = 0) (z : Addr) (w : World) (hz : w.cell? ⟨0, 0, none⟩ = some (.iface 64 (.pointer (some z)))) : Calls Tryd.prog 16 #[.int .u8 (a.toNat : Int)] w fun e w' => e = .returned (.tuple #[.int .i64 0, .iface 64 (.pointer (some z))]) ∧ ∃ n, w' = w.drewN n := by
  subst ha; exact log_zero z w hz
theorem inv_err (a : UInt8) (ha : a = 0) (z : Addr) (w : World) (hz : w.cell? ⟨0, 0, none⟩ = some (.iface 64 (.pointer (some z)))) : Calls Tryd.prog 11 #[.int .u8 (a.toNat : Int)] w fun e w' => e = .returned (.tuple #[.int .u8 0, .iface 64 (.pointer (some z))]) ∧ ∃ n, w' = w.drewN n := by
  subst ha; exact inv_zero z w hz
theorem div_err (a b : UInt8) (hb : b = 0) (z : Addr) (w : World) (hz : w.cell? ⟨0, 0, none⟩ = some (.iface 64 (.pointer (some z)))) : Calls Tryd.prog 25 #[.int .u8 (a.toNat : Int), .int .u8 (b.toNat : Int)] w fun e w' => e = .returned (.tuple #[.int .u8 0, .iface 64 (.pointer (some z))]) ∧ ∃ n, w' = w.drewN n := by
  subst hb; exact div_zero a z w hz
theorem pow_any (a : UInt8) (n : Int) (z : Addr) (w : World) (hz : w.cell? ⟨0, 0, none⟩ = some (.iface 64 (.pointer (some z)))) : Calls Tryd.prog 14 #[.int .u8 (a.toNat : Int), .int .i64 n] w fun e w' => e = .returned (.int .u8 ((powI a n).toNat : Int)) ∧ ∃ k, w' = w.drewN k := by
  by_cases h : a = 0
  · subst h; exact pow_zero n z w hz
  · exact (pow_some a n h w).mono fun e w' ⟨h1, h2⟩ => ⟨h1, 0, h2.symm⟩

end Go.Proofs.YtadjgdgbdgjipaaDoor
