/- A number as eight bytes: plainly. -/
import Derived.Test.YtahnicbokdbjdaaDoorOwnB
namespace Go.Proofs.YtahnicbokdbjdaaDoor
open Go.RowKit

/-- A number as a word of 64 bits. -/
def numU (n : Int) : Nat := (n % 18446744073709551616).toNat
def numByte (n : Int) (j : Nat) : UInt8 := UInt8.ofNat (numU n / 2 ^ (8 * (7 - j)))
/-- A number as eight bytes, the high one first. -/
def numB (n : Int) : List UInt8 := (List.range 8).map (numByte n)
theorem numB_length (n : Int) : (numB n).length = 8 := by simp [numB]
theorem numU_lt (n : Int) : numU n < 18446744073709551616 := by unfold numU; omega
theorem numByte_shr (n : Int) (k : Nat) (hk : k < 8) : n / ((2 ^ (8 * (7 - k)) : Nat) : Int) % 256 = ((numByte n k).toNat : Int) := by
  unfold numByte
  rw [UInt8.toNat_ofNat']
  obtain ⟨m, hm⟩ : ∃ m : Int, n = (numU n : Int) + 18446744073709551616 * m := ⟨n / 18446744073709551616, by unfold numU; omega⟩
  generalize numU n = u at *
  rw [hm]
  have h : k = 0 ∨ k = 1 ∨ k = 2 ∨ k = 3 ∨ k = 4 ∨ k = 5 ∨ k = 6 ∨ k = 7 := by omega
  rcases h with rfl | rfl | rfl | rfl | rfl | rfl | rfl | rfl <;> simp <;> omega
/-- What is left of a word when r bytes were taken. -/
def numX (n : Int) (r : Nat) : Nat := numU n / 256 ^ r
theorem numX_zero (n : Int) : numX n 0 = numU n := by simp [numX]
theorem numX_succ (n : Int) (r : Nat) : numX n (r + 1) = numX n r / 256 := by
  unfold numX
  rw [Nat.pow_succ, Nat.div_div_eq_div_mul]
theorem numX_byte (n : Int) (r : Nat) (hr : r < 8) : ((numX n r : Nat) : Int) % 256 = ((numByte n (7 - r)).toNat : Int) := by
  unfold numX numByte
  rw [UInt8.toNat_ofNat', show 7 - (7 - r) = r from by omega, show (256 : Nat) = 2 ^ 8 from rfl, ← Nat.pow_mul]
  omega
theorem numX_lt (n : Int) (r : Nat) : numX n r < 18446744073709551616 := Nat.lt_of_le_of_lt (Nat.div_le_self _ _) (numU_lt n)
/-- The bytes from the end, r of them done. -/
def backTo (n : Int) (r j : Nat) : UInt8 := if 8 - r ≤ j then numByte n j else 0
theorem backTo_zero (n : Int) : tab 8 (backTo n 0) = tab 8 fun _ => 0 := tab_congr fun i hi => by unfold backTo; rw [if_neg (by omega)]
theorem backTo_set (n : Int) (r : Nat) (hr : r < 8) : (tab 8 (backTo n r)).set (7 - r) (numByte n (7 - r)) = tab 8 (backTo n (r + 1)) := by
  rw [tab_set]
  refine tab_congr fun i hi => ?_
  unfold backTo
  by_cases h : i = 7 - r
  · subst h; rw [if_pos rfl, if_pos (by omega)]
  · rw [if_neg h]
    by_cases h2 : 8 - r ≤ i
    · rw [if_pos h2, if_pos (by omega)]
    · rw [if_neg h2, if_neg (by omega)]
theorem backTo_end (n : Int) : tab 8 (backTo n 8) = numB n := tab_congr fun i _ => by unfold backTo; rw [if_pos (by omega)]
theorem numTo_succ (n : Int) (k : Nat) : (List.range (k + 1)).map (numByte n) = (List.range k).map (numByte n) ++ [numByte n k] := by simp [List.range_succ]

/-- The word that bytes make, the high one first. -/
def wordOf : List UInt8 → Nat → Nat
  | [], x => x
  | b :: bs, x => wordOf bs (x * 256 + b.toNat)

end Go.Proofs.YtahnicbokdbjdaaDoor
