/- The walks over mac.Of, (*mac.Key).Tag, mac.Same, (*mac.Key).Right. -/
import Derived.Test.YtmngcnhnpfnloaaDoorMacM
namespace Go.Proofs.YtmngcnhnpfnloaaDoor
open Go.RowKit

theorem agg32 : Tryd.prog.underlying 55 = some (.array 32 5) := Tryd.underlying55
theorem cB_all (l : List UInt8) : (cB l).toArray.all (·.oneCell') = true := by
  rw [List.all_toArray, List.all_eq_true]
  exact cB_one _
theorem size32 (l : List UInt8) (hl : l.length = 32) : (Tryd.prog.info? 55).map (·.size) = some (cB l).toArray.size := by rw [List.size_toArray, cB_length, hl]; kernel_rfl
theorem z32 (l : List UInt8) (hl : l.length = 32) : zero32.size = (cB l).toArray.size := by rw [zero32_size, List.size_toArray, cB_length, hl]

/-- Do two rows differ in their first k bytes? -/
def diffTo (xs ys : List UInt8) : Nat → UInt8
  | 0 => 0
  | k + 1 => diffTo xs ys k ||| (cf xs k ^^^ cf ys k)
theorem diffTo_zero (xs ys : List UInt8) : ∀ k, diffTo xs ys k = 0 ↔ ∀ i, i < k → cf xs i = cf ys i
  | 0 => ⟨fun _ i h => absurd h (Nat.not_lt_zero i), fun _ => rfl⟩
  | k + 1 => by
    rw [diffTo]
    have ih := diffTo_zero xs ys k
    constructor
    · intro h i hi
      have h1 : diffTo xs ys k = 0 ∧ cf xs k ^^^ cf ys k = 0 := by
        generalize diffTo xs ys k = a at *
        generalize cf xs k ^^^ cf ys k = b at *
        rw [← UInt8.toBitVec_inj, UInt8.toBitVec_or] at h
        have h' := BitVec.or_eq_zero_iff.1 h
        exact ⟨UInt8.toBitVec_inj.1 h'.1, UInt8.toBitVec_inj.1 h'.2⟩
      rcases Nat.lt_or_ge i k with h3 | h3
      · exact ih.1 h1.1 i h3
      · obtain rfl : i = k := by omega
        exact UInt8.xor_eq_zero_iff.1 h1.2
    · intro h
      rw [ih.2 fun i hi => h i (by omega), h k (by omega), UInt8.xor_self]
      rfl
theorem diffTo_eq (xs ys : List UInt8) (h : xs.length = ys.length) : diffTo xs ys xs.length = 0 ↔ xs = ys := by
  rw [diffTo_zero]
  constructor
  · intro h1
    refine cf_ext h fun i => ?_
    rcases Nat.lt_or_ge i xs.length with h3 | h3
    · exact h1 i h3
    · rw [cf_ge h3, cf_ge (by omega)]
  · rintro rfl i _; rfl
theorem or8 (x y : UInt8) : bits BinOp.or IntKind.u8 (x.toNat : Int) (y.toNat : Int) = ((x ||| y).toNat : Int) := by
  rw [u8_or_nat _ _ x.toNat_lt y.toNat_lt, UInt8.toNat_or]

end Go.Proofs.YtmngcnhnpfnloaaDoor
