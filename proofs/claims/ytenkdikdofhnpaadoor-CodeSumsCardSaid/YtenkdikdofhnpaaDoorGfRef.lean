/- The product as the document defines it (polynomials over bits, modulo 0x11d) is the product of Gf. Plain Lean. -/
import Derived.Test.YtenkdikdofhnpaaDoorGf
namespace Go.Proofs.YtenkdikdofhnpaaDoor.Gf

def selN (b : Bool) (n : Nat) : Nat := if b then n else 0
theorem selN_xor (x y : Bool) (a : Nat) : selN (x ^^ y) a = selN x a ^^^ selN y a := by cases x <;> cases y <;> simp [selN]
theorem selN_sum (x : Bool) (a b : Nat) : selN x (a ^^^ b) = selN x a ^^^ selN x b := by cases x <;> simp [selN]
theorem xor4N (a b c d : Nat) : (a ^^^ b) ^^^ (c ^^^ d) = (a ^^^ c) ^^^ (b ^^^ d) := by
  rw [Nat.xor_assoc, Nat.xor_assoc, ← Nat.xor_assoc b c d, Nat.xor_comm b c, Nat.xor_assoc c b d]
def shlN (a k : Nat) : Nat := a <<< k
/-- The first k rows of the product without its reduction. -/
def clm : Nat → Nat → Nat → Nat
  | 0, _, _ => 0
  | k + 1, a, b => clm k a b ^^^ selN (b.testBit k) (shlN a k)
/-- One step of the reduction, k of them (from bit 14 on). -/
def redS (p i : Nat) : Nat := p ^^^ selN (p.testBit i) (shlN 285 (i - 8))
def red : Nat → Nat → Nat
  | 0, p => p
  | k + 1, p => redS (red k p) (14 - k)
theorem clm_left (k a a' b : Nat) : clm k (a ^^^ a') b = clm k a b ^^^ clm k a' b := by
  induction k with
  | zero => simp [clm]
  | succ k ih => simp only [clm, shlN]; rw [ih, Nat.shiftLeft_xor_distrib, selN_sum, xor4N]
theorem clm_right (k a b b' : Nat) : clm k a (b ^^^ b') = clm k a b ^^^ clm k a b' := by
  induction k with
  | zero => simp [clm]
  | succ k ih => simp only [clm]; rw [ih, Nat.testBit_xor, selN_xor, xor4N]
theorem redS_xor (p q i : Nat) : redS (p ^^^ q) i = redS p i ^^^ redS q i := by
  unfold redS; rw [Nat.testBit_xor, selN_xor, xor4N]
theorem red_xor (k p q : Nat) : red k (p ^^^ q) = red k p ^^^ red k q := by
  induction k with
  | zero => rfl
  | succ k ih => simp only [red]; rw [ih, redS_xor]
theorem clm_lt (k a b : Nat) (ha : a < 256) (hk : k ≤ 8) : clm k a b < 65536 := by
  induction k with
  | zero => simp [clm]
  | succ k ih =>
    have h1 := ih (by omega)
    have h2 : selN (b.testBit k) (shlN a k) < 65536 := by
      unfold selN shlN
      split
      · rw [Nat.shiftLeft_eq]
        have : 2 ^ k ≤ 2 ^ 7 := Nat.pow_le_pow_right (by omega) (by omega)
        have : a * 2 ^ k ≤ 255 * 2 ^ 7 := Nat.mul_le_mul (by omega) this
        omega
      · omega
    exact Nat.xor_lt_two_pow (n := 16) h1 h2
theorem red_lt (k p : Nat) (hp : p < 65536) : red k p < 65536 := by
  induction k with
  | zero => exact hp
  | succ k ih =>
    simp only [red, redS]
    refine Nat.xor_lt_two_pow (n := 16) ih ?_
    unfold selN shlN
    split
    · rw [Nat.shiftLeft_eq]
      have : 2 ^ (14 - k - 8) ≤ 2 ^ 6 := Nat.pow_le_pow_right (by omega) (by omega)
      have : 285 * 2 ^ (14 - k - 8) ≤ 285 * 2 ^ 6 := Nat.mul_le_mul (Nat.le_refl _) this
      omega
    · omega
theorem shlN_lt (a k : Nat) (ha : a < 256) (hk : k < 8) : shlN a k < 65536 := by
  unfold shlN
  rw [Nat.shiftLeft_eq]
  have : 2 ^ k ≤ 2 ^ 7 := Nat.pow_le_pow_right (by omega) (by omega)
  have : a * 2 ^ k ≤ 255 * 2 ^ 7 := Nat.mul_le_mul (by omega) this
  omega
theorem shl285_lt (k : Nat) (hk : k < 7) : shlN 285 k < 65536 := by
  unfold shlN
  rw [Nat.shiftLeft_eq]
  have : 2 ^ k ≤ 2 ^ 6 := Nat.pow_le_pow_right (by omega) (by omega)
  have : 285 * 2 ^ k ≤ 285 * 2 ^ 6 := Nat.mul_le_mul (Nat.le_refl _) this
  omega
def refmul (a b : UInt8) : UInt8 := UInt8.ofNat (red 7 (clm 8 a.toNat b.toNat))
theorem ofNat_xor (p q : Nat) : UInt8.ofNat (p ^^^ q) = UInt8.ofNat p ^^^ UInt8.ofNat q := by
  apply UInt8.toNat_inj.1
  simp only [UInt8.toNat_xor, UInt8.toNat_ofNat']
  exact Nat.xor_mod_two_pow (n := 8)
theorem refmul_eq (a b : UInt8) : refmul a b = mul a b := by
  refine Lin.ext (f := fun a => refmul a b) (g := fun a => mul a b) (fun x y => ?_) (fun x y => mul_xor_left x y b) (fun x hx => ?_) a
  · simp only [refmul, UInt8.toNat_xor, clm_left, red_xor, ofNat_xor]
  refine Lin.ext (f := fun b => refmul x b) (g := fun b => mul x b) (fun y z => ?_) (fun y z => mul_xor_right x y z) (fun y hy => ?_) b
  · simp only [refmul, UInt8.toNat_xor, clm_right, red_xor, ofNat_xor]
  have h : (basis.all fun x => basis.all fun y => decide (refmul x y = mul x y)) = true := by decide +kernel
  exact of_decide_eq_true (List.all_eq_true.1 (List.all_eq_true.1 h x hx) y hy)

end Go.Proofs.YtenkdikdofhnpaaDoor.Gf
