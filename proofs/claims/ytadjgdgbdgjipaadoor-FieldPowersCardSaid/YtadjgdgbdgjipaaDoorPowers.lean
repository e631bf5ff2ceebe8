/- The walks over FieldPowers and FieldProducts. -/
import Derived.Test.YtadjgdgbdgjipaaDoorAlive1
import Derived.Test.YtadjgdgbdgjipaaDoorFieldE
import Derived.Test.YtadjgdgbdgjipaaDoorRefPow
import Derived.Test.YtadjgdgbdgjipaaDoorNum
namespace Go.Proofs.YtadjgdgbdgjipaaDoor
open Go.RowKit


theorem u8_of' {a : Int} (h : (Lit.int .u8 a).wf = true) : ∃ x : UInt8, a = (x.toNat : Int) := ⟨_, (u8_of_wf h).symm⟩
theorem exp_glog (a : UInt8) (ha : a ≠ 0) : Gf.gexp (ex (Gf.glog a : Int)) = a := by
  have h := Gf.glog_lt_exp a ha
  rw [show ex (Gf.glog a : Int) = Gf.glog a from by unfold ex; omega, h.2]

set_option maxHeartbeats 2000000 in
theorem powers_walk (a : UInt8) (n : Int) (w : World) (ea : Nat → Addr) (H : Errs 64 errGs w ea) :
    Calls Tryd.prog 6 #[.int .u8 (a.toNat : Int), .int .i64 n] w fun e w' => e = .returned (.bool true) ∧ Below w.heap.size w w' := by
  replace H := Lib.hid H
  have hx := ex_lt n
  have e2 := Lib.hid (gpow_two (ex n))
  by_cases ha : a = 0
  · have h0 : ((a.toNat : Int) == 0) = true := by rw [ha]; rfl
    replace ha := Lib.hid ha
    go_enter Tryd.func6, Tryd.ntmps6
    go_wp2_with fail
    refine (alive1_any _).mono ?_
    rintro e w1 ⟨rfl, hb1⟩
    replace hb1 := Lib.hid hb1
    go_wp2_with fail
    refine (make_any _).mono ?_
    rintro e w2 ⟨rfl, hb2, ht2⟩
    replace ht2 := Lib.hid ht2
    have hT := Lib.hid ht2.out.lt
    replace hb2 := Lib.hid (hb1.out.trans (hb2.mono hb1.out.size))
    have H2 := Lib.hid (H.out.below hb2.out)
    go_wp2_with fail
    refine (log_err a ha.out (ea 19) _ (show w2.cell? ⟨0, 0, none⟩ = some (.iface 64 (.pointer (some (ea 19)))) from H2.out.var 19 (by decide))).mono ?_
    rintro e w3 ⟨rfl, m, rfl⟩
    go_wp2_with fail
    refine (num_err 19 (by omega) ea _ (H2.out.below (below_drewN (Below.refl _ _) m))).mono ?_
    rintro e w4 ⟨rfl, hb4⟩
    have ht4 := Lib.hid (ht2.out.below (Below.trans (below_drewN (Below.refl _ _) m) hb4) hT.out)
    replace hb4 := Lib.hid ((below_drewN hb2.out m).trans (hb4.mono hb2.out.size))
    go_wp2_with fail
    refine (tlog_any a _ _ ht4.out).mono ?_
    rintro e w5 ⟨rfl, rfl⟩
    rw [if_pos ha.out]
    have H4 := Lib.hid (H.out.below hb4.out)
    go_wp2_with fail
    refine (rest_any n _).mono ?_
    rintro e w5 ⟨rfl, rfl⟩
    go_wp2_with fail
    refine (power_any 2 (ex n) (by omega) _).mono ?_
    rintro e w5 ⟨rfl, rfl⟩
    rw [e2.out]
    go_wp2_with fail
    refine (pow_any a n (ea 19) _ (show w4.cell? ⟨0, 0, none⟩ = some (.iface 64 (.pointer (some (ea 19)))) from H4.out.var 19 (by decide))).mono ?_
    rintro e w5 ⟨rfl, m2, rfl⟩
    have ht5 := Lib.hid (ht4.out.below (below_drewN (Below.refl _ _) m2) ht4.out.lt)
    go_wp2_with fail
    refine (refpow_any a n _).mono ?_
    rintro e w5 ⟨rfl, rfl⟩
    go_wp2_with fail
    refine (exp_any n _).mono ?_
    rintro e w5 ⟨rfl, rfl⟩
    go_wp2_with fail
    refine (texp_any n _ _ ht5.out).mono ?_
    rintro e w5 ⟨rfl, rfl⟩
    go_wp2_with fail
    go_ret
    exact ⟨rfl, below_drewN hb4.out m2⟩
  · have h0 := u8_ne ha
    have e3 := Lib.hid (exp_glog a ha)
    replace ha := Lib.hid ha
    go_enter Tryd.func6, Tryd.ntmps6
    go_wp2_with fail
    refine (alive1_any _).mono ?_
    rintro e w1 ⟨rfl, hb1⟩
    replace hb1 := Lib.hid hb1
    go_wp2_with fail
    refine (make_any _).mono ?_
    rintro e w2 ⟨rfl, hb2, ht2⟩
    replace ht2 := Lib.hid ht2
    replace hb2 := Lib.hid (hb1.out.trans (hb2.mono hb1.out.size))
    have H2 := Lib.hid (H.out.below hb2.out)
    go_wp2_with fail
    refine (log_some a ha.out _).mono ?_
    rintro e w3 ⟨rfl, rfl⟩
    go_wp2_with fail
    refine (reflog_any a ha.out _).mono ?_
    rintro e w3 ⟨rfl, rfl⟩
    go_wp2_with fail
    refine (tlog_any a _ _ ht2.out).mono ?_
    rintro e w5 ⟨rfl, rfl⟩
    rw [if_neg ha.out]
    go_wp2_with fail
    refine (exp_any _ _).mono ?_
    rintro e w5 ⟨rfl, rfl⟩
    rw [e3.out]
    go_wp2_with fail
    refine (rest_any n _).mono ?_
    rintro e w5 ⟨rfl, rfl⟩
    go_wp2_with fail
    refine (power_any 2 (ex n) (by omega) _).mono ?_
    rintro e w5 ⟨rfl, rfl⟩
    rw [e2.out]
    go_wp2_with fail
    refine (pow_any a n (ea 19) _ (show w2.cell? ⟨0, 0, none⟩ = some (.iface 64 (.pointer (some (ea 19)))) from H2.out.var 19 (by decide))).mono ?_
    rintro e w5 ⟨rfl, m2, rfl⟩
    have ht5 := Lib.hid (ht2.out.below (below_drewN (Below.refl _ _) m2) ht2.out.lt)
    go_wp2_with fail
    refine (refpow_any a n _).mono ?_
    rintro e w5 ⟨rfl, rfl⟩
    go_wp2_with fail
    refine (exp_any n _).mono ?_
    rintro e w5 ⟨rfl, rfl⟩
    go_wp2_with fail
    refine (texp_any n _ _ ht5.out).mono ?_
    rintro e w5 ⟨rfl, rfl⟩
    go_wp2_with fail
    go_ret
    exact ⟨rfl, below_drewN hb2.out m2⟩

theorem powers_law (a n : Int) (w : World) (wa : (Lit.int .u8 a).wf = true) (_wb : (Lit.int .i64 n).wf = true) (ea : Nat → Addr) (H : Errs 64 errGs w ea) :
    Calls Tryd.prog 6 #[.int .u8 a, .int .i64 n] w fun e w' => e = .returned (.bool true) ∧ Below w.heap.size w w' := by
  obtain ⟨x, rfl⟩ := u8_of' wa
  exact powers_walk x n w ea H

set_option maxHeartbeats 2000000 in
theorem products_walk (a b : UInt8) (w : World) (ea : Nat → Addr) (H : Errs 64 errGs w ea) :
    Calls Tryd.prog 7 #[.int .u8 (a.toNat : Int), .int .u8 (b.toNat : Int)] w fun e w' => e = .returned (.bool true) ∧ Below w.heap.size w w' := by
  replace H := Lib.hid H
  have hx := xor_u8 a b
  by_cases hb : b = 0
  · have h0 : ((b.toNat : Int) == 0) = true := by rw [hb]; rfl
    have hz := Lib.hid (show Gf.mul a (Gf.inv b) = 0 from by rw [hb]; exact Gf.mul_zero a)
    replace hb := Lib.hid hb
    go_enter Tryd.func7, Tryd.ntmps7
    go_wp2_with fail
    refine (alive1_any _).mono ?_
    rintro e w1 ⟨rfl, hb1⟩
    replace hb1 := Lib.hid hb1
    go_wp2_with fail
    refine (make_any _).mono ?_
    rintro e w2 ⟨rfl, hb2, ht2⟩
    replace ht2 := Lib.hid ht2
    replace hb2 := Lib.hid (hb1.out.trans (hb2.mono hb1.out.size))
    go_wp2_with fail
    refine (refmul_any a b _).mono ?_
    rintro e w3 ⟨rfl, rfl⟩
    go_wp2_with fail
    refine (mul_any a b _).mono ?_
    rintro e w3 ⟨rfl, rfl⟩
    go_wp2_with fail
    refine (tmul_any a b _ _ ht2.out).mono ?_
    rintro e w3 ⟨rfl, m3, rfl⟩
    replace ht2 := Lib.hid (ht2.out.below (below_drewN (Below.refl _ _) m3) ht2.out.lt)
    replace hb2 := Lib.hid (below_drewN hb2.out m3)
    have H2 := Lib.hid (H.out.below hb2.out)
    go_wp2_with fail
    refine (add_any a b _).mono ?_
    rintro e w3 ⟨rfl, rfl⟩
    go_wp2_with fail
    refine (inv_err b hb.out (ea 19) _ (by exact H2.out.var 19 (by decide))).mono ?_
    rintro e w3 ⟨rfl, m4, rfl⟩
    go_wp2_with fail
    refine (div_err a b hb.out (ea 19) _ (by exact H2.out.var 19 (by decide))).mono ?_
    rintro e w3 ⟨rfl, m5, rfl⟩
    go_wp2_with fail
    refine (num_err 19 (by omega) ea _ (by exact ⟨H2.out.var, H2.out.obj, H2.out.inj⟩)).mono ?_
    rintro e w4 ⟨rfl, hb4⟩
    replace ht2 := Lib.hid (ht2.out.below (show Below (w2.drewN m3).heap.size (w2.drewN m3) w4 from ⟨hb4.os, hb4.tape, hb4.output, hb4.size, hb4.block⟩) ht2.out.lt)
    replace hb2 := Lib.hid (hb2.out.trans ((show Below (w2.drewN m3).heap.size (w2.drewN m3) w4 from ⟨hb4.os, hb4.tape, hb4.output, hb4.size, hb4.block⟩).mono hb2.out.size))
    clear H2 hb4
    have H4 := Lib.hid (H.out.below hb2.out)
    go_wp2_with fail
    refine (num_err 19 (by omega) ea _ H4.out).mono ?_
    rintro e w5 ⟨rfl, hb5⟩
    replace ht2 := Lib.hid (ht2.out.below hb5 ht2.out.lt)
    replace hb2 := Lib.hid (hb2.out.trans (hb5.mono hb2.out.size))
    clear H4 hb5
    go_wp2_with fail
    refine (tdiv_any a b _ _ ht2.out).mono ?_
    rintro e w6 ⟨rfl, m6, rfl⟩
    rw [hz.out]
    go_wp2_with fail
    go_ret
    exact ⟨rfl, below_like hb2.out rfl rfl rfl rfl⟩
  · have h0 := u8_ne hb
    have hi := Lib.hid (gpow_254 hb)
    replace hb := Lib.hid hb
    go_enter Tryd.func7, Tryd.ntmps7
    go_wp2_with fail
    refine (alive1_any _).mono ?_
    rintro e w1 ⟨rfl, hb1⟩
    replace hb1 := Lib.hid hb1
    go_wp2_with fail
    refine (make_any _).mono ?_
    rintro e w2 ⟨rfl, hb2, ht2⟩
    replace ht2 := Lib.hid ht2
    replace hb2 := Lib.hid (hb1.out.trans (hb2.mono hb1.out.size))
    go_wp2_with fail
    refine (refmul_any a b _).mono ?_
    rintro e w3 ⟨rfl, rfl⟩
    go_wp2_with fail
    refine (mul_any a b _).mono ?_
    rintro e w3 ⟨rfl, rfl⟩
    go_wp2_with fail
    refine (tmul_any a b _ _ ht2.out).mono ?_
    rintro e w3 ⟨rfl, m3, rfl⟩
    replace ht2 := Lib.hid (ht2.out.below (below_drewN (Below.refl _ _) m3) ht2.out.lt)
    replace hb2 := Lib.hid (below_drewN hb2.out m3)
    go_wp2_with fail
    refine (add_any a b _).mono ?_
    rintro e w3 ⟨rfl, rfl⟩
    go_wp2_with fail
    refine (inv_some b hb.out _).mono ?_
    rintro e w3 ⟨rfl, rfl⟩
    go_wp2_with fail
    refine (div_some a b hb.out _).mono ?_
    rintro e w3 ⟨rfl, rfl⟩
    go_wp2_with fail
    refine (refinv_any b _).mono ?_
    rintro e w3 ⟨rfl, rfl⟩
    rw [hi.out]
    go_wp2_with fail
    refine (refmul_any a (Gf.inv b) _).mono ?_
    rintro e w3 ⟨rfl, rfl⟩
    go_wp2_with fail
    refine (refinv_any b _).mono ?_
    rintro e w3 ⟨rfl, rfl⟩
    rw [hi.out]
    go_wp2_with fail
    refine (tdiv_any a b _ _ ht2.out).mono ?_
    rintro e w6 ⟨rfl, m6, rfl⟩
    go_wp2_with fail
    go_ret
    exact ⟨rfl, below_like hb2.out rfl rfl rfl rfl⟩

theorem products_law (a b : Int) (w : World) (wa : (Lit.int .u8 a).wf = true) (wb : (Lit.int .u8 b).wf = true) (ea : Nat → Addr) (H : Errs 64 errGs w ea) :
    Calls Tryd.prog 7 #[.int .u8 a, .int .u8 b] w fun e w' => e = .returned (.bool true) ∧ Below w.heap.size w w' := by
  obtain ⟨x, rfl⟩ := u8_of' wa
  obtain ⟨y, rfl⟩ := u8_of' wb
  exact products_walk x y w ea H

end Go.Proofs.YtadjgdgbdgjipaaDoor
