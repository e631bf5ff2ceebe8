/- The plain law of the reference's SHA-256 (package baileeref07), as words go. -/
import Derived.Test.YtgkddegaiaeckaaDoorF7SafeSaid
namespace Go.Proofs.YtgkddegaiaeckaaDoor
open Go.RowKit

theorem shlor (a b : W32) (k : Nat) (hk : k < 32) : (a ||| b) <<< UInt32.ofNat k = (a <<< UInt32.ofNat k) ||| (b <<< UInt32.ofNat k) := by
  apply UInt32.toNat_inj.1
  simp only [UInt32.toNat_shiftLeft, UInt32.toNat_or]
  have : (UInt32.ofNat k).toNat % 32 = k := by simp; omega
  rw [this]
  rw [Nat.shiftLeft_or_distrib, Nat.or_mod_two_pow]
theorem shlshl (a : W32) (j k : Nat) (h : j + k < 32) : (a <<< UInt32.ofNat j) <<< UInt32.ofNat k = a <<< UInt32.ofNat (j + k) := by
  apply UInt32.toNat_inj.1
  simp only [UInt32.toNat_shiftLeft]
  have e1 : (UInt32.ofNat k).toNat % 32 = k := by simp; omega
  have e2 : (UInt32.ofNat j).toNat % 32 = j := by simp; omega
  have e3 : (UInt32.ofNat (j + k)).toNat % 32 = j + k := by simp; omega
  rw [e1, e2, e3, Nat.shiftLeft_eq, Nat.shiftLeft_eq, Nat.shiftLeft_eq, Nat.pow_add]
  rw [Nat.mod_mul_mod]
  rw [Nat.mul_assoc]
/-- Word t of a chunk, in the reference's words. -/
def wordR (b0 b1 b2 b3 : UInt8) : W32 := (b0.toUInt32 <<< UInt32.ofNat 24 ||| b1.toUInt32 <<< UInt32.ofNat 16) ||| b2.toUInt32 <<< UInt32.ofNat 8 ||| b3.toUInt32
theorem wordR_eq (b : List UInt8) (t : Nat) : wordR (cf b (4 * t)) (cf b (4 * t + 1)) (cf b (4 * t + 2)) (cf b (4 * t + 3)) = wordAt b t := by
  unfold wordR wordAt
  rw [show (8 : W32) = UInt32.ofNat 8 from rfl, shlor _ _ 8 (by omega), shlor _ _ 8 (by omega), shlor _ _ 8 (by omega), shlshl _ 8 8 (by omega), shlshl _ 8 (8 + 8) (by omega), shlshl _ 8 8 (by omega)]
theorem byteW (c : UInt8) : ((c.toNat : Nat) : Int) = wn c.toUInt32 := by unfold wn; simp
theorem shlB (c : UInt8) (k : Nat) (h : k ≤ 24) : (c.toNat : Int) * ((2 ^ k : Nat) : Int) = wn (c.toUInt32 <<< UInt32.ofNat k) := by
  have h1 := shl32 c.toUInt32 k (by omega)
  rw [← h1, ← byteW]
  have h2 := c.toNat_lt
  have h3 : 2 ^ k ≤ 2 ^ 24 := Nat.pow_le_pow_right (by omega) h
  rw [← Int.natCast_mul]
  have h4 : c.toNat * 2 ^ k < 4294967296 := by
    calc c.toNat * 2 ^ k ≤ 255 * 2 ^ 24 := Nat.mul_le_mul (by omega) h3
      _ < 4294967296 := by decide
  omega

end Go.Proofs.YtgkddegaiaeckaaDoor
