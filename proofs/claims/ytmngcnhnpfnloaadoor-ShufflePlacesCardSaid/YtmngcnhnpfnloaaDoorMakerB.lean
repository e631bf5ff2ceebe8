/- The walks over (stream.maker).number, (stream.maker).mask. -/
import Derived.Test.YtmngcnhnpfnloaaDoorMaker
import Derived.LoopTactic
namespace Go.Proofs.YtmngcnhnpfnloaaDoor
open Go.RowKit

/-- The number that bytes make, k of them taken. -/
def beNat (bs : List UInt8) : Nat → Nat
  | 0 => 0
  | k + 1 => beNat bs k * 256 + (cf bs k).toNat
theorem beNat_lt (bs : List UInt8) : ∀ k, beNat bs k < 256 ^ k
  | 0 => by simp [beNat]
  | k + 1 => by
    have := beNat_lt bs k
    have h2 := (cf bs k).toNat_lt
    rw [beNat, Nat.pow_succ]
    omega
theorem or_byte64 (x : Nat) (c : UInt8) (hx : x < 72057594037927936) : bits BinOp.or IntKind.u64 ((x : Int) * 256) (c.toNat : Int) = ((x * 256 + c.toNat : Nat) : Int) := by
  have hc := c.toNat_lt
  have h := u64_or_nat (x * 256) c.toNat (by omega) (by omega)
  rw [Int.natCast_mul, show ((256 : Nat) : Int) = 256 from rfl] at h
  rw [h]
  congr 1
  have h2 := Nat.shiftLeft_add_eq_or_of_lt (b := c.toNat) (i := 8) (by omega) x
  rw [Nat.shiftLeft_eq] at h2
  rw [show (256 : Nat) = 2 ^ 8 from rfl, ← h2]

theorem or_byte64w (x : Nat) (c : UInt8) (hx : x < 72057594037927936) : bits BinOp.or IntKind.u64 (IntKind.u64.wrap ((x : Int) * 256)) (IntKind.u64.wrap (c.toNat : Int)) = ((x * 256 + c.toNat : Nat) : Int) := by
  have hc := c.toNat_lt
  rw [IntWalk.u64_in _ (by omega), IntWalk.u64_in _ (by omega), or_byte64 x c hx]

/-- A block masked. -/
def maskB (T bs : List UInt8) : List UInt8 := tab 8 fun i => cf T i ^^^ cf bs i
theorem maskB_length (T bs : List UInt8) : (maskB T bs).length = 8 := tab_length _ _
def maskTo (T bs : List UInt8) (k i : Nat) : UInt8 := if i < k then cf T i ^^^ cf bs i else cf T i
theorem maskTo_zero (T bs : List UInt8) (h : T.length = 8) : tab 8 (maskTo T bs 0) = T := by
  rw [show tab 8 (maskTo T bs 0) = tab 8 (cf T) from tab_congr fun i _ => by unfold maskTo; rw [if_neg (Nat.not_lt_zero i)], ← h, tab_cf]
theorem maskTo_set (T bs : List UInt8) (k : Nat) : (tab 8 (maskTo T bs k)).set k (cf T k ^^^ cf bs k) = tab 8 (maskTo T bs (k + 1)) := by
  rw [tab_set]
  refine tab_congr fun i _ => ?_
  unfold maskTo
  by_cases h : i = k
  · subst h; rw [if_pos rfl, if_pos (Nat.lt_succ_self i)]
  · rw [if_neg h]
    by_cases h2 : i < k
    · rw [if_pos h2, if_pos (by omega)]
    · rw [if_neg h2, if_neg (by omega)]
theorem maskTo_end (T bs : List UInt8) : tab 8 (maskTo T bs 8) = maskB T bs := tab_congr fun i hi => by unfold maskTo; rw [if_pos hi]
theorem maskB_twice (T bs : List UInt8) (h : bs.length = 8) : maskB T (maskB T bs) = bs := by
  refine cf_ext (by rw [maskB_length, h]) fun i => ?_
  unfold maskB
  rw [cf_tab, cf_tab]
  by_cases hi : i < 8
  · rw [if_pos hi, if_pos hi, ← UInt8.xor_assoc, UInt8.xor_self, UInt8.zero_xor]
  · rw [if_neg hi, cf_ge (by omega)]

end Go.Proofs.YtmngcnhnpfnloaaDoor
