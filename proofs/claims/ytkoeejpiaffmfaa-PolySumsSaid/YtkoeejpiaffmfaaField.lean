/- Walks over package field: double, Add, Mul, Sum, Dot. -/
import Derived.Test.YtkoeejpiaffmfaaRows
import Derived.Test.YtkoeejpiaffmfaaGf
import Derived.Laws.BitsAllLaws
import Derived.Outline
namespace Go.Proofs.Ytkoeejpiaffmfaa
open Go.RowKit

theorem xor_u8 (x y : UInt8) : bits BinOp.xor IntKind.u8 (x.toNat : Int) (y.toNat : Int) = ((Gf.add x y).toNat : Int) := by
  rw [u8_xor_nat _ _ x.toNat_lt y.toNat_lt, Gf.add, UInt8.toNat_xor]
theorem u8_lt (x : UInt8) : 0 ≤ (x.toNat : Int) ∧ (x.toNat : Int) ≤ 255 := by have := x.toNat_lt; omega
theorem u8_zero : (0 : Int) = ((0 : UInt8).toNat : Int) := rfl
theorem ret_u8 {a : Int} {x : UInt8} (h : a = (x.toNat : Int)) : Ending.returned (.int .u8 a) = .returned (.int .u8 (x.toNat : Int)) := by rw [h]

theorem dbl_lo (x : UInt8) (h : (x.toNat : Int) * 2 < 256) : ((x.toNat : Int) * 2) = ((Gf.dbl x).toNat : Int) := by
  have hh := Gf.all8 (p := fun x => decide ((x.toNat : Int) * 2 < 256 → ((x.toNat : Int) * 2) = ((Gf.dbl x).toNat : Int))) (by decide +kernel) x
  exact of_decide_eq_true hh h
theorem dbl_hi (x : UInt8) (h : 256 ≤ (x.toNat : Int) * 2) : IntKind.u8.wrap (bits BinOp.xor IntKind.i64 ((x.toNat : Int) * 2) 285) = ((Gf.dbl x).toNat : Int) := by
  have hh := Gf.all8 (p := fun x => decide (256 ≤ (x.toNat : Int) * 2 → IntKind.u8.wrap (bits BinOp.xor IntKind.i64 ((x.toNat : Int) * 2) 285) = ((Gf.dbl x).toNat : Int))) (by decide +kernel) x
  exact of_decide_eq_true hh h

set_option maxRecDepth 10000 in
set_option maxHeartbeats 400000 in
theorem double_any (x : UInt8) (w : World) : Calls Try.prog 35 #[.int .u8 (x.toNat : Int)] w fun e w' => e = .returned (.int .u8 ((Gf.dbl x).toNat : Int)) ∧ w = w' := by
  have hx := u8_lt x
  rcases (show (x.toNat : Int) * 2 < 256 ∨ 256 ≤ (x.toNat : Int) * 2 from by omega) with h | h
  · go_enter Try.func35, Try.ntmps35
    go_wp2
    go_ret
    exact ⟨ret_u8 (dbl_lo x h), rfl⟩
  · go_enter Try.func35, Try.ntmps35
    go_wp2
    go_ret
    exact ⟨ret_u8 (dbl_hi x h), rfl⟩

set_option maxHeartbeats 400000 in
theorem add_any (x y : UInt8) (w : World) : Calls Try.prog 28 #[.int .u8 (x.toNat : Int), .int .u8 (y.toNat : Int)] w fun e w' => e = .returned (.int .u8 ((Gf.add x y).toNat : Int)) ∧ w = w' := by
  go_enter Try.func28, Try.ntmps28
  go_wp2
  go_ret
  exact ⟨ret_u8 (xor_u8 x y), rfl⟩

theorem bit0 (y : UInt8) : (bits BinOp.and IntKind.u8 (y.toNat : Int) 1 == 1) = Gf.bit y 0 := by
  have hh := Gf.all8 (p := fun y => decide ((bits BinOp.and IntKind.u8 (y.toNat : Int) 1 == 1) = Gf.bit y 0)) (by decide +kernel) y
  exact of_decide_eq_true hh
theorem shr1 (y : UInt8) : (y.toNat : Int) / (2 : Int) = ((y >>> 1).toNat : Int) := by
  have hh := Gf.all8 (p := fun y => decide ((y.toNat : Int) / (2 : Int) = ((y >>> 1).toNat : Int))) (by decide +kernel) y
  exact of_decide_eq_true hh

set_option maxHeartbeats 400000 in
theorem mul_any (a b : UInt8) (w : World) : Calls Try.prog 29 #[.int .u8 (a.toNat : Int), .int .u8 (b.toNat : Int)] w fun e w' => e = .returned (.int .u8 ((Gf.mul a b).toNat : Int)) ∧ w = w' := by
  go_enter Try.func29, Try.ntmps29
  go_wp2_with fail
  go_loop [0, 1, 5] (fun x y o => ∃ (u v r : UInt8) (k : Nat), x = .int .u8 (u.toNat : Int) ∧ y = .int .u8 (v.toNat : Int) ∧ o = .int .u8 (r.toNat : Int) ∧ v.toNat < 2 ^ k ∧ r ^^^ Gf.mulN k u v = Gf.mul a b)
    (fun _ y _ => (intOf y).toNat)
  case atStart => exact ⟨a, b, 0, 8, rfl, rfl, rfl, b.toNat_lt, by simp [Gf.mul]⟩
  case round =>
    obtain ⟨u, v, r, k, rfl, rfl, rfl, hk, hr⟩ := hrel
    replace hr := Lib.hid hr
    have hv := u8_lt v
    by_cases hz : 0 < v.toNat
    · obtain ⟨k, rfl⟩ : ∃ j, k = j + 1 := ⟨k - 1, by
        cases k with
        | zero => simp at hk; omega
        | succ k => rfl⟩
      have hk' : (v >>> 1).toNat < 2 ^ k := by
        have e : (v >>> 1).toNat = v.toNat / 2 := by have := shr1 v; omega
        rw [Nat.pow_succ] at hk
        omega
      have hlt : (v >>> 1).toNat < v.toNat := by have := shr1 v; omega
      have hr' := hr.out
      simp only [Gf.mulN] at hr'
      replace hr' := Lib.hid hr'
      cases hb : Gf.bit v 0
      · have hb' := bit0 v
        rw [hb] at hb'
        have e1 := shr1 v
        clear hb
        replace e1 := Lib.hid e1
        go_wp2_with fail
        refine (double_any u _).mono ?_
        rintro e w1 ⟨rfl, rfl⟩
        go_wp2_with fail
        rw [e1.out]
        exact ⟨⟨_, _, _, k, rfl, rfl, rfl, hk', by have h := hr'.out; rw [← bit0, hb'] at h; simpa [Gf.sel] using h⟩, by simp only [intOf, Int.toNat_natCast]; omega⟩
      · have hb' := bit0 v
        rw [hb] at hb'
        have e1 := shr1 v
        clear hb
        replace e1 := Lib.hid e1
        go_wp2_with fail
        refine (double_any u _).mono ?_
        rintro e w1 ⟨rfl, rfl⟩
        go_wp2_with fail
        rw [e1.out, xor_u8]
        exact ⟨⟨_, _, _, k, rfl, rfl, rfl, hk', by have h := hr'.out; rw [← bit0, hb'] at h; rw [Gf.add, UInt8.xor_assoc]; exact h⟩, by simp only [intOf, Int.toNat_natCast]; omega⟩
    · go_wp2_with fail
      go_ret
      have hv0 : v = 0 := by
        apply UInt8.toNat_inj.1
        simp; omega
      have h0 : ∀ k u, Gf.mulN k u 0 = 0 := by
        intro k
        induction k with
        | zero => intro u; rfl
        | succ k ih => intro u; simp only [Gf.mulN]; rw [show (0 : UInt8) >>> 1 = 0 from by decide, ih]; simp [Gf.bit, Gf.sel]
      have hr' := hr.out
      rw [hv0, h0] at hr'
      refine ⟨?_, rfl⟩
      rw [← hr']
      simp

end Go.Proofs.Ytkoeejpiaffmfaa
