/- The walks over FieldOrder and FieldFrobenius. -/
import Derived.Test.YtadjgdgbdgjipaaDoorRules
namespace Go.Proofs.YtadjgdgbdgjipaaDoor
open Go.RowKit

set_option maxHeartbeats 400000 in
theorem rest_any (n : Int) (w : World) : Calls Tryd.prog 12 #[.int .i64 n] w fun e w' => e = .returned (.int .i64 ((ex n : Nat) : Int)) ∧ w = w' := by
  have h1 := tmod_lo n
  have h2 := tmod_hi n
  have h4 := ex_go n
  have h5 := ex_lt n
  have h4 := Lib.hid h4
  by_cases h : n.tmod 255 < 0
  · go_enter Tryd.func12, Tryd.ntmps12
    go_wp2
    go_ret
    refine ⟨?_, rfl⟩
    have h6 := h4.out
    show Ending.returned (.int .i64 (n.tmod 255 + 255)) = _
    rw [show n.tmod 255 + 255 = ((ex n : Nat) : Int) from by omega]
  · go_enter Tryd.func12, Tryd.ntmps12
    go_wp2
    go_ret
    refine ⟨?_, rfl⟩
    have h6 := h4.out
    show Ending.returned (.int .i64 (n.tmod 255)) = _
    rw [show n.tmod 255 = ((ex n : Nat) : Int) from by omega]

theorem exp_eq_iff (i j : Nat) (hi : i < 255) (hj : j < 255) : (((Gf.gexp i).toNat : Int) == ((Gf.gexp j).toNat : Int)) = ((i : Int) == (j : Int)) := by
  rw [Bool.eq_iff_iff, beq_iff_eq, beq_iff_eq]
  constructor
  · intro h
    have h1 := Gf.exp_inj (UInt8.toNat_inj.1 (by omega : (Gf.gexp i).toNat = (Gf.gexp j).toNat))
    omega
  · intro h
    have : i = j := by omega
    rw [this]
theorem pow_exp (x y : Nat) (hx : x < 255) : powI (Gf.gexp x) (y : Int) = Gf.gexp (ex ((x : Int) * (y : Int))) := by
  unfold powI
  rw [if_neg (Gf.exp_ne x), Gf.glog_exp x hx]
theorem exp_sum (x y : Nat) : Gf.mul (Gf.gexp x) (Gf.gexp y) = Gf.gexp (ex ((x : Int) + (y : Int))) := by
  rw [Gf.exp_add, ex_of_lt _ (by omega)]
  congr 1
theorem powI_two (a : UInt8) : powI a 2 = Gf.mul a a := by
  unfold powI
  by_cases h : a = 0
  · rw [if_pos h, h]; rfl
  · rw [if_neg h, ex_of_lt _ (by omega)]
    conv => rhs; rw [Gf.mul_log h h]
    congr 1
    omega
theorem powI_256 (a : UInt8) : powI a 256 = a := by
  unfold powI
  by_cases h : a = 0
  · rw [if_pos h, h]; rfl
  · rw [if_neg h, ex_of_lt _ (by omega)]
    conv => rhs; rw [← (Gf.glog_lt_exp a h).2]
    rw [← Gf.exp_mod ((Gf.glog a : Int) * 256).toNat, ← Gf.exp_mod (Gf.glog a)]
    congr 1
    omega
theorem frob (a b : UInt8) : powI (Gf.add a b) 2 = Gf.add (powI a 2) (powI b 2) := by
  rw [powI_two, powI_two, powI_two, Gf.mul_add, Gf.add_mul, Gf.add_mul, Gf.mul_comm b a, Gf.add_assoc, ← Gf.add_assoc (Gf.mul a b), Gf.add_self, Gf.zero_add]


set_option maxHeartbeats 1000000 in
theorem frob_walk (a b : UInt8) (w : World) (z : Addr) (hz : w.cell? ⟨0, 0, none⟩ = some (.iface 64 (.pointer (some z)))) :
    Calls Tryd.prog 5 #[.int .u8 (a.toNat : Int), .int .u8 (b.toNat : Int)] w fun e w' => e = .returned (.bool true) ∧ Below w.heap.size w w' := by
  replace hz := Lib.hid hz
  go_enter Tryd.func5, Tryd.ntmps5
  go_wp2_with fail
  refine (alive1_any _).mono ?_
  rintro e w1 ⟨rfl, hb1⟩
  have hz1 := Lib.hid (show w1.cell? ⟨0, 0, none⟩ = some (.iface 64 (.pointer (some z))) from (hb1.cell (World.block_lt_of_cell? w _ hz.out)).trans hz.out)
  have e1 := (frob a b).symm
  have e2 : Gf.mul a a = powI a 2 := (powI_two a).symm
  have e3 := powI_256 a
  go_wp2_with (first | (go_at_call 9; ((with_reducible refine (add_any _ _ _).mono ?_); rintro e w' ⟨rfl, rfl⟩)) | (go_at_call 10; ((with_reducible refine (mul_any _ _ _).mono ?_); rintro e w' ⟨rfl, rfl⟩)) | (go_at_call 14; ((with_reducible refine (pow_any _ _ z _ ?_).mono ?_); exact hz1.out; rintro e w' ⟨rfl, n, rfl⟩)))
  go_ret
  exact ⟨rfl, by repeat (first | exact hb1 | refine below_drewN ?_ _)⟩

set_option maxHeartbeats 1000000 in
theorem order_walk (i j : Int) (w : World) (z : Addr) (hz : w.cell? ⟨0, 0, none⟩ = some (.iface 64 (.pointer (some z)))) :
    Calls Tryd.prog 4 #[.int .i64 i, .int .i64 j] w fun e w' => e = .returned (.bool true) ∧ Below w.heap.size w w' := by
  replace hz := Lib.hid hz
  have hx := ex_lt i
  have hy := ex_lt j
  have e0 := exp_eq_iff (ex i) (ex j) hx hy
  have e1 := u8_ne (Gf.exp_ne (ex i))
  have e2 := exp_sum (ex i) (ex j)
  have e3 := pow_exp (ex i) (ex j) hx
  have hm : 0 ≤ (ex i : Int) * (ex j : Int) ∧ (ex i : Int) * (ex j : Int) ≤ 64770 := by
    have h1 := mul_bd (ex i) (ex j : Int) hx (by omega) (by omega)
    exact ⟨Int.mul_nonneg (by omega) (by omega), h1.2⟩
  have e4 : wrap64 ((ex i : Int) * (ex j : Int)) = (ex i : Int) * (ex j : Int) := IntWalk.wrap64_in _ (by omega)
  go_enter Tryd.func4, Tryd.ntmps4
  go_wp2_with fail
  refine (alive1_any _).mono ?_
  rintro e w1 ⟨rfl, hb1⟩
  have hz1 := Lib.hid (show w1.cell? ⟨0, 0, none⟩ = some (.iface 64 (.pointer (some z))) from (hb1.cell (World.block_lt_of_cell? w _ hz.out)).trans hz.out)
  go_wp2_with (first | (go_at_call 9; ((with_reducible refine (add_any _ _ _).mono ?_); rintro e w' ⟨rfl, rfl⟩)) | (go_at_call 10; ((with_reducible refine (mul_any _ _ _).mono ?_); rintro e w' ⟨rfl, rfl⟩)) | (go_at_call 14; ((with_reducible refine (pow_any _ _ z _ ?_).mono ?_); exact hz1.out; rintro e w' ⟨rfl, n, rfl⟩)) | (go_at_call 13; ((with_reducible refine (exp_any _ _).mono ?_); rintro e w' ⟨rfl, rfl⟩)) | (go_at_call 12; ((with_reducible refine (rest_any _ _).mono ?_); rintro e w' ⟨rfl, rfl⟩)))
  go_ret
  exact ⟨rfl, by repeat (first | exact hb1 | refine below_drewN ?_ _)⟩

theorem rules_law (a b c : Int) (w : World) (wa : (Lit.int .u8 a).wf = true) (wb : (Lit.int .u8 b).wf = true) (wc : (Lit.int .u8 c).wf = true) (ea : Nat → Addr) (H : Errs 64 errGs w ea) :
    Calls Tryd.prog 3 #[.int .u8 a, .int .u8 b, .int .u8 c] w fun e w' => e = .returned (.bool true) ∧ Below w.heap.size w w' := by
  obtain ⟨x, rfl⟩ := u8_of wa
  obtain ⟨y, rfl⟩ := u8_of wb
  obtain ⟨v, rfl⟩ := u8_of wc
  exact rules_walk x y v w (ea 0) (H.var 0 (by decide))
theorem frob_law (a b : Int) (w : World) (wa : (Lit.int .u8 a).wf = true) (wb : (Lit.int .u8 b).wf = true) (ea : Nat → Addr) (H : Errs 64 errGs w ea) :
    Calls Tryd.prog 5 #[.int .u8 a, .int .u8 b] w fun e w' => e = .returned (.bool true) ∧ Below w.heap.size w w' := by
  obtain ⟨x, rfl⟩ := u8_of wa
  obtain ⟨y, rfl⟩ := u8_of wb
  exact frob_walk x y w (ea 0) (H.var 0 (by decide))
theorem order_law (i j : Int) (w : World) (_wa : (Lit.int .i64 i).wf = true) (_wb : (Lit.int .i64 j).wf = true) (ea : Nat → Addr) (H : Errs 64 errGs w ea) :
    Calls Tryd.prog 4 #[.int .i64 i, .int .i64 j] w fun e w' => e = .returned (.bool true) ∧ Below w.heap.size w w' :=
  order_walk i j w (ea 0) (H.var 0 (by decide))

end Go.Proofs.YtadjgdgbdgjipaaDoor
