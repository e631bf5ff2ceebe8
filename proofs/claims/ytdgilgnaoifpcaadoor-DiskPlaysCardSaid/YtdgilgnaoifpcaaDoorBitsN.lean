/- The operations on bits at int, on numbers that are not below nought: as on Nat. -/
import Derived.Laws.BitsAllLaws
import Derived.IntWalk
namespace Go.Proofs.YtdgilgnaoifpcaaDoor
open Go.RowKit

theorem i64_of (n : Nat) (h : n < 9223372036854775808) : IntKind.i64.wrap (n : Int) = (n : Int) := IntWalk.i64_in (n : Int) (by omega)
theorem i64_xor_nat (a b : Nat) (ha : a < 9223372036854775808) (hb : b < 9223372036854775808) : bits .xor .i64 (a : Int) (b : Int) = ((a ^^^ b : Nat) : Int) := by
  have hx : a ^^^ b < 2 ^ 63 := Nat.xor_lt_two_pow (by omega) (by omega)
  show IntKind.i64.wrap ((BitVec.ofInt 64 (a : Int) ^^^ BitVec.ofInt 64 (b : Int)).toNat : Int) = _
  rw [BitVec.toNat_xor, ofInt_u64 a (by omega), ofInt_u64 b (by omega)]
  exact i64_of _ (by omega)
theorem i64_or_nat (a b : Nat) (ha : a < 9223372036854775808) (hb : b < 9223372036854775808) : bits .or .i64 (a : Int) (b : Int) = ((a ||| b : Nat) : Int) := by
  have hx : a ||| b < 2 ^ 63 := Nat.or_lt_two_pow (by omega) (by omega)
  show IntKind.i64.wrap ((BitVec.ofInt 64 (a : Int) ||| BitVec.ofInt 64 (b : Int)).toNat : Int) = _
  rw [BitVec.toNat_or, ofInt_u64 a (by omega), ofInt_u64 b (by omega)]
  exact i64_of _ (by omega)
theorem i64_and_nat (a b : Nat) (ha : a < 9223372036854775808) (hb : b < 9223372036854775808) : bits .and .i64 (a : Int) (b : Int) = ((a &&& b : Nat) : Int) := by
  have hx : a &&& b < 2 ^ 63 := Nat.and_lt_two_pow _ (by omega)
  show IntKind.i64.wrap ((BitVec.ofInt 64 (a : Int) &&& BitVec.ofInt 64 (b : Int)).toNat : Int) = _
  rw [BitVec.toNat_and, ofInt_u64 a (by omega), ofInt_u64 b (by omega)]
  exact i64_of _ (by omega)
/-- The low bits of a number. -/
theorem i64_low (x k : Nat) (hx : x < 9223372036854775808) (hk : k ≤ 20) : bits .and .i64 (x : Int) (wrap64 (wrap64 ((2 : Int) ^ k) - 1)) = ((x % 2 ^ k : Nat) : Int) := by
  have hp := Nat.two_pow_pos k
  have hp2 : 2 ^ k ≤ 2 ^ 20 := Nat.pow_le_pow_right (by omega) hk
  have e : (2 : Int) ^ k = ((2 ^ k : Nat) : Int) := by simp
  have hm := i64_and_nat x (2 ^ k - 1) hx (by omega)
  rw [Nat.and_two_pow_sub_one_eq_mod] at hm
  rw [← hm, e]
  obtain ⟨y, hy⟩ : ∃ y, y = 2 ^ k := ⟨_, rfl⟩
  rw [← hy] at hp hp2 ⊢
  rw [IntWalk.wrap64_in (y : Int) (by omega), IntWalk.wrap64_in ((y : Int) - 1) (by omega), show (y : Int) - 1 = ((y - 1 : Nat) : Int) from by omega]
/-- Two halves joined. -/
theorem i64_join (a b k : Nat) (ha : a < 1048576) (hk : k ≤ 20) (hb : b < 2 ^ k) : bits .or .i64 (wrap64 ((a : Int) * (2 : Int) ^ k)) (b : Int) = ((a * 2 ^ k + b : Nat) : Int) := by
  have hp2 : 2 ^ k ≤ 2 ^ 20 := Nat.pow_le_pow_right (by omega) hk
  have hm : a * 2 ^ k < 1048576 * 2 ^ 20 := Nat.lt_of_le_of_lt (Nat.mul_le_mul_left _ hp2) (Nat.mul_lt_mul_of_pos_right ha (by decide))
  have e : (a : Int) * (2 : Int) ^ k = ((a * 2 ^ k : Nat) : Int) := by simp
  have h2 := Nat.shiftLeft_add_eq_or_of_lt hb a
  rw [Nat.shiftLeft_eq] at h2
  rw [e, h2]
  obtain ⟨y, hy⟩ : ∃ y, y = a * 2 ^ k := ⟨_, rfl⟩
  rw [← hy] at hm ⊢
  rw [IntWalk.wrap64_in (y : Int) (by omega)]
  exact i64_or_nat y b (by omega) (by omega)

end Go.Proofs.YtdgilgnaoifpcaaDoor
