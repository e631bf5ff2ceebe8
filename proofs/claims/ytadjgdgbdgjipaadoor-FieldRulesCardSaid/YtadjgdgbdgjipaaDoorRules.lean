/- The walks over FieldRules, FieldOrder, FieldFrobenius. -/
import Derived.Test.YtadjgdgbdgjipaaDoorAlive1
import Derived.Test.YtadjgdgbdgjipaaDoorFieldE
namespace Go.Proofs.YtadjgdgbdgjipaaDoor
open Go.RowKit

def errGs : List Nat := [0]

theorem mul_one_any (a : UInt8) (w : World) : Calls Tryd.prog 10 #[.int .u8 (a.toNat : Int), .int .u8 1] w fun e w' => e = .returned (.int .u8 (a.toNat : Int)) ∧ w = w' := by
  have h := mul_any a 1 w
  rw [Gf.mul_one] at h
  exact h
theorem u8_of {a : Int} (h : (Lit.int .u8 a).wf = true) : ∃ x : UInt8, a = (x.toNat : Int) := ⟨_, (u8_of_wf h).symm⟩

set_option maxHeartbeats 1000000 in
theorem rules_walk (a b c : UInt8) (w : World) (z : Addr) (hz : w.cell? ⟨0, 0, none⟩ = some (.iface 64 (.pointer (some z)))) :
    Calls Tryd.prog 3 #[.int .u8 (a.toNat : Int), .int .u8 (b.toNat : Int), .int .u8 (c.toNat : Int)] w fun e w' => e = .returned (.bool true) ∧ Below w.heap.size w w' := by
  have e1 : Gf.add b a = Gf.add a b := Gf.add_comm _ _
  have e2 : Gf.add (Gf.add a b) c = Gf.add a (Gf.add b c) := Gf.add_assoc _ _ _
  have e3 : Gf.add a a = 0 := Gf.add_self _
  have e4 : Gf.mul b a = Gf.mul a b := Gf.mul_comm _ _
  have e5 : Gf.mul (Gf.mul a b) c = Gf.mul a (Gf.mul b c) := (Gf.mul_assoc _ _ _).symm
  have e7 : Gf.add (Gf.mul a b) (Gf.mul a c) = Gf.mul a (Gf.add b c) := (Gf.mul_add a b c).symm
  have hz := Lib.hid hz
  go_enter Tryd.func3, Tryd.ntmps3
  go_wp2_with fail
  refine (alive1_any _).mono ?_
  rintro e w1 ⟨rfl, hb1⟩
  have hz1 := Lib.hid (show w1.cell? ⟨0, 0, none⟩ = some (.iface 64 (.pointer (some z))) from (hb1.cell (World.block_lt_of_cell? w _ hz.out)).trans hz.out)
  go_wp2_with (first | (go_at_call 9; ((with_reducible refine (add_any _ _ _).mono ?_); rintro e w' ⟨rfl, rfl⟩)) | (go_at_call 10; ((with_reducible refine (mul_one_any _ _).mono ?_); rintro e w' ⟨rfl, rfl⟩)) | (go_at_call 10; ((with_reducible refine (mul_any _ _ _).mono ?_); rintro e w' ⟨rfl, rfl⟩)))
  clear e1 e2 e3 e4 e5 e7
  by_cases ha : a = 0
  · have h0 : Gf.mul a b = 0 := by rw [ha, Gf.mul_zero_left]
    have hb1 := Lib.hid hb1
    refine (inv_err a ha z _ hz1.out).mono ?_
    rintro e w2 ⟨rfl, n, rfl⟩
    have hz0 : ((a.toNat : Int) == 0) = true := by rw [ha]; rfl
    clear ha
    go_wp2_with (first | (go_at_call 9; ((with_reducible refine (add_any _ _ _).mono ?_); rintro e w' ⟨rfl, rfl⟩)) | (go_at_call 10; ((with_reducible refine (mul_one_any _ _).mono ?_); rintro e w' ⟨rfl, rfl⟩)) | (go_at_call 10; ((with_reducible refine (mul_any _ _ _).mono ?_); rintro e w' ⟨rfl, rfl⟩)))
    go_ret
    exact ⟨rfl, below_drewN hb1.out n⟩
  · have h0 := Lib.hid (Gf.mul_inv ha)
    have ha' := Lib.hid ha
    have hz0 := u8_ne ha
    refine (inv_some a ha _).mono ?_
    rintro e w2 ⟨rfl, rfl⟩
    clear ha
    go_wp2_with fail
    refine (mul_any a (Gf.inv a) _).mono ?_
    rintro e w2 ⟨rfl, rfl⟩
    rw [h0.out]
    by_cases hb : b = 0
    · have hm : Gf.mul a b = 0 := by rw [hb, Gf.mul_zero]
      subst hb
      go_wp2_with fail
      refine (mul_any a 0 _).mono ?_
      rintro e w2 ⟨rfl, rfl⟩
      rw [hm]
      go_wp2_with fail
      go_ret
      exact ⟨rfl, hb1⟩
    · have h1 := u8_ne hb
      have h2 := u8_ne (fun h => (Gf.mul_eq_zero h).elim ha'.out hb)
      clear hb
      go_wp2_with (first | (go_at_call 9; ((with_reducible refine (add_any _ _ _).mono ?_); rintro e w' ⟨rfl, rfl⟩)) | (go_at_call 10; ((with_reducible refine (mul_one_any _ _).mono ?_); rintro e w' ⟨rfl, rfl⟩)) | (go_at_call 10; ((with_reducible refine (mul_any _ _ _).mono ?_); rintro e w' ⟨rfl, rfl⟩)))
      go_ret
      exact ⟨rfl, hb1⟩

theorem ex_add (i j : Int) : Gf.gexp (ex i + ex j) = Gf.gexp (ex (i + j)) := by
  rw [← Gf.exp_mod (ex i + ex j)]
  congr 1
  unfold ex
  omega
theorem ex_of_lt (i : Int) (h0 : 0 ≤ i) : Gf.gexp (ex i) = Gf.gexp i.toNat := by
  rw [← Gf.exp_mod i.toNat]
  congr 1
  unfold ex
  omega
theorem glog_gexp (n : Nat) : Gf.glog (Gf.gexp n) = n % 255 := by
  rw [← Gf.exp_mod n]
  exact Gf.glog_exp _ (Nat.mod_lt _ (by omega))

end Go.Proofs.YtadjgdgbdgjipaaDoor
