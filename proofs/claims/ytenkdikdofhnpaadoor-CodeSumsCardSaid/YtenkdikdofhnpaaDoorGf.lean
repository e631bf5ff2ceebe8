/- The field of 256 elements, in plain Lean: no program in sight. -/
import Derived.Test.YtenkdikdofhnpaaDoorBase
namespace Go.Proofs.YtenkdikdofhnpaaDoor.Gf

def sel (b : Bool) (a : UInt8) : UInt8 := if b then a else 0
def bit (a : UInt8) (i : Nat) : Bool := a.toNat.testBit i
/-- A number times alpha. -/
def dbl (a : UInt8) : UInt8 := (a <<< 1) ^^^ sel (bit a 7) 29
/-- The product, n bits of the second factor. -/
def mulN : Nat → UInt8 → UInt8 → UInt8
  | 0, _, _ => 0
  | n + 1, a, b => sel (bit b 0) a ^^^ mulN n (dbl a) (b >>> 1)
def mul (a b : UInt8) : UInt8 := mulN 8 a b

theorem all8 {p : UInt8 → Bool} (h : (List.range 256).all (fun n => p (UInt8.ofNat n)) = true) (a : UInt8) : p a = true := by
  have h1 := List.all_eq_true.1 h a.toNat (by simp; exact a.toNat_lt)
  rw [UInt8.ofNat_toNat] at h1
  exact h1

theorem bit_xor (a b : UInt8) (i : Nat) : bit (a ^^^ b) i = (bit a i ^^ bit b i) := by
  simp [bit, UInt8.toNat_xor]
theorem sel_xor (x y : Bool) (a : UInt8) : sel (x ^^ y) a = sel x a ^^^ sel y a := by
  cases x <;> cases y <;> simp [sel]
theorem sel_sum (x : Bool) (a b : UInt8) : sel x (a ^^^ b) = sel x a ^^^ sel x b := by
  cases x <;> simp [sel]
theorem xor4 (a b c d : UInt8) : (a ^^^ b) ^^^ (c ^^^ d) = (a ^^^ c) ^^^ (b ^^^ d) := by
  rw [UInt8.xor_assoc, UInt8.xor_assoc, ← UInt8.xor_assoc b c d, UInt8.xor_comm b c, UInt8.xor_assoc c b d]
theorem shl_xor (a b : UInt8) : (a ^^^ b) <<< 1 = (a <<< 1) ^^^ (b <<< 1) := by
  apply UInt8.toBitVec_inj.1
  simp [BitVec.shiftLeft_xor_distrib]
theorem shr_xor (a b : UInt8) : (a ^^^ b) >>> 1 = (a >>> 1) ^^^ (b >>> 1) := by
  apply UInt8.toBitVec_inj.1
  simp [BitVec.ushiftRight_xor_distrib]
theorem dbl_xor (a b : UInt8) : dbl (a ^^^ b) = dbl a ^^^ dbl b := by
  unfold dbl
  rw [bit_xor, sel_xor, shl_xor, xor4]
theorem mulN_xor_left (n : Nat) : ∀ a a' b, mulN n (a ^^^ a') b = mulN n a b ^^^ mulN n a' b := by
  induction n with
  | zero => intro a a' b; simp [mulN]
  | succ n ih => intro a a' b; simp only [mulN]; rw [sel_sum, dbl_xor, ih, xor4]
theorem mulN_xor_right (n : Nat) : ∀ a b b', mulN n a (b ^^^ b') = mulN n a b ^^^ mulN n a b' := by
  induction n with
  | zero => intro a b b'; simp [mulN]
  | succ n ih => intro a b b'; simp only [mulN]; rw [bit_xor, sel_xor, shr_xor, ih, xor4]
theorem mul_xor_left (a a' b : UInt8) : mul (a ^^^ a') b = mul a b ^^^ mul a' b := mulN_xor_left 8 a a' b
theorem mul_xor_right (a b b' : UInt8) : mul a (b ^^^ b') = mul a b ^^^ mul a b' := mulN_xor_right 8 a b b'

/-- What is linear. -/
def Lin (f : UInt8 → UInt8) : Prop := ∀ a b, f (a ^^^ b) = f a ^^^ f b
theorem Lin.zero {f : UInt8 → UInt8} (h : Lin f) : f 0 = 0 := by
  have h1 := h 0 0
  simp only [UInt8.xor_self] at h1
  exact h1
theorem Lin.sel {f : UInt8 → UInt8} (h : Lin f) (b : Bool) (a : UInt8) : f (sel b a) = sel b (f a) := by
  cases b
  · exact h.zero
  · rfl
theorem bits_sum (a : UInt8) : a = sel (bit a 0) 1 ^^^ sel (bit a 1) 2 ^^^ sel (bit a 2) 4 ^^^ sel (bit a 3) 8 ^^^ sel (bit a 4) 16 ^^^ sel (bit a 5) 32 ^^^ sel (bit a 6) 64 ^^^ sel (bit a 7) 128 := by
  have h := all8 (p := fun a => decide (a = sel (bit a 0) 1 ^^^ sel (bit a 1) 2 ^^^ sel (bit a 2) 4 ^^^ sel (bit a 3) 8 ^^^ sel (bit a 4) 16 ^^^ sel (bit a 5) 32 ^^^ sel (bit a 6) 64 ^^^ sel (bit a 7) 128)) (by decide +kernel) a
  exact of_decide_eq_true h
def basis : List UInt8 := [1, 2, 4, 8, 16, 32, 64, 128]
theorem Lin.ext {f g : UInt8 → UInt8} (hf : Lin f) (hg : Lin g) (h : ∀ x ∈ basis, f x = g x) (a : UInt8) : f a = g a := by
  have e (f : UInt8 → UInt8) (hf : Lin f) : f a = Gf.sel (bit a 0) (f 1) ^^^ Gf.sel (bit a 1) (f 2) ^^^ Gf.sel (bit a 2) (f 4) ^^^ Gf.sel (bit a 3) (f 8) ^^^ Gf.sel (bit a 4) (f 16) ^^^ Gf.sel (bit a 5) (f 32) ^^^ Gf.sel (bit a 6) (f 64) ^^^ Gf.sel (bit a 7) (f 128) := by
    have hb := congrArg f (bits_sum a)
    rw [hf, hf, hf, hf, hf, hf, hf, hf.sel, hf.sel, hf.sel, hf.sel, hf.sel, hf.sel, hf.sel, hf.sel] at hb
    exact hb
  rw [e f hf, e g hg, h 1 (by decide), h 2 (by decide), h 4 (by decide), h 8 (by decide), h 16 (by decide), h 32 (by decide), h 64 (by decide), h 128 (by decide)]

theorem mul_comm (a b : UInt8) : mul a b = mul b a := by
  refine Lin.ext (f := fun a => mul a b) (g := fun a => mul b a) (fun x y => mul_xor_left x y b) (fun x y => mul_xor_right b x y) (fun x hx => ?_) a
  refine Lin.ext (f := fun b => mul x b) (g := fun b => mul b x) (fun y z => mul_xor_right x y z) (fun y z => mul_xor_left y z x) (fun y hy => ?_) b
  have h : (basis.all fun x => basis.all fun y => decide (mul x y = mul y x)) = true := by decide +kernel
  exact of_decide_eq_true (List.all_eq_true.1 (List.all_eq_true.1 h x hx) y hy)
theorem mul_zero_left (b : UInt8) : mul 0 b = 0 := Lin.zero (f := fun a => mul a b) (fun x y => mul_xor_left x y b)
theorem mul_zero (a : UInt8) : mul a 0 = 0 := Lin.zero (f := fun b => mul a b) (fun x y => mul_xor_right a x y)
theorem mul_one (a : UInt8) : mul a 1 = a := by
  refine Lin.ext (f := fun a => mul a 1) (g := fun a => a) (fun x y => mul_xor_left x y 1) (fun x y => rfl) (fun x hx => ?_) a
  have h : (basis.all fun x => decide (mul x 1 = x)) = true := by decide +kernel
  exact of_decide_eq_true (List.all_eq_true.1 h x hx)
theorem one_mul (a : UInt8) : mul 1 a = a := by rw [mul_comm, mul_one]
theorem dbl_lin : Lin dbl := dbl_xor
theorem mul_dbl (a b : UInt8) : mul a (dbl b) = dbl (mul a b) := by
  refine Lin.ext (f := fun a => mul a (dbl b)) (g := fun a => dbl (mul a b)) (fun x y => mul_xor_left x y _) (fun x y => by simp only [mul_xor_left, dbl_xor]) (fun x hx => ?_) a
  refine Lin.ext (f := fun b => mul x (dbl b)) (g := fun b => dbl (mul x b)) (fun y z => by simp only [dbl_xor, mul_xor_right]) (fun y z => by simp only [mul_xor_right, dbl_xor]) (fun y hy => ?_) b
  have h : (basis.all fun x => basis.all fun y => decide (mul x (dbl y) = dbl (mul x y))) = true := by decide +kernel
  exact of_decide_eq_true (List.all_eq_true.1 (List.all_eq_true.1 h x hx) y hy)
theorem mul_two (a : UInt8) : mul a 2 = dbl a := by
  have h := mul_dbl a 1
  rw [mul_one, show dbl 1 = 2 from by decide +kernel] at h
  exact h

/-- The powers of alpha. -/
def gexp : Nat → UInt8
  | 0 => 1
  | n + 1 => dbl (gexp n)
theorem mul_assoc_gen {x : UInt8} (h : ∀ a b, mul a (mul b x) = mul (mul a b) x) (a b : UInt8) : mul a (mul b (dbl x)) = mul (mul a b) (dbl x) := by
  rw [mul_dbl, mul_dbl, h, mul_dbl]
theorem mul_assoc_exp (n : Nat) : ∀ a b, mul a (mul b (gexp n)) = mul (mul a b) (gexp n) := by
  induction n with
  | zero => intro a b; simp only [gexp, mul_one]
  | succ n ih => exact mul_assoc_gen ih

/-- x, x alpha, x alpha^2 .. -/
def iter : Nat → UInt8 → List UInt8
  | 0, _ => []
  | n + 1, x => x :: iter n (dbl x)
theorem iter_exp (n : Nat) : ∀ k, iter n (gexp k) = (List.range' k n).map gexp := by
  induction n with
  | zero => intro k; rfl
  | succ n ih =>
    intro k
    have h1 : iter (n + 1) (gexp k) = gexp k :: iter n (gexp (k + 1)) := rfl
    rw [h1, ih (k + 1), List.range'_succ, List.map_cons]
def tab : List UInt8 := iter 255 1
theorem tab_eq : tab = (List.range 255).map gexp := by
  have h := iter_exp 255 0
  rw [List.range_eq_range']
  exact h
theorem tab_len : tab.length = 255 := by rw [tab_eq]; simp
theorem tab_get (n : Nat) (h : n < 255) : tab[n]? = some (gexp n) := by rw [tab_eq]; simp [h]
def glog (a : UInt8) : Nat := tab.idxOf a
theorem glog_lt_exp (a : UInt8) (h : a ≠ 0) : glog a < 255 ∧ gexp (glog a) = a := by
  have hh := all8 (p := fun a => decide (a = 0) || (decide (glog a < 255) && decide (tab[glog a]? = some a))) (by decide +kernel) a
  simp only [Bool.or_eq_true, Bool.and_eq_true, decide_eq_true_eq] at hh
  rcases hh with hh | ⟨h1, h2⟩
  · exact absurd hh h
  · rw [tab_get _ h1] at h2
    exact ⟨h1, Option.some.inj h2⟩
theorem glog_exp (n : Nat) (h : n < 255) : glog (gexp n) = n := by
  have hh : ((List.range 255).all fun n => decide (tab[n]?.map glog = some n)) = true := by decide +kernel
  have h1 := of_decide_eq_true (List.all_eq_true.1 hh n (by simpa using h))
  rw [tab_get n h] at h1
  exact Option.some.inj h1
theorem exp_255 : gexp 255 = 1 := by
  have h1 : gexp 255 = dbl (gexp 254) := rfl
  have h2 : tab[254]? = some 142 := by decide +kernel
  rw [tab_get 254 (by omega)] at h2
  rw [h1, Option.some.inj h2]
  decide +kernel
theorem exp_add (m n : Nat) : mul (gexp m) (gexp n) = gexp (m + n) := by
  induction n with
  | zero => simp only [gexp, mul_one]; rfl
  | succ n ih => rw [show gexp (n + 1) = dbl (gexp n) from rfl, mul_dbl, ih]; rfl
theorem exp_period (n : Nat) : gexp (n + 255) = gexp n := by rw [← exp_add, exp_255, mul_one]
theorem exp_mod (n : Nat) : gexp (n % 255) = gexp n := by
  have h (q r : Nat) : gexp (r + 255 * q) = gexp r := by
    induction q with
    | zero => rfl
    | succ q ih => rw [show r + 255 * (q + 1) = (r + 255 * q) + 255 from by omega, exp_period, ih]
  conv => rhs; rw [← Nat.mod_add_div n 255]
  rw [h]
theorem exp_ne (n : Nat) : gexp n ≠ 0 := by
  have h : ((List.range 255).all fun n => decide (tab[n]? ≠ some 0)) = true := by decide +kernel
  have h1 := of_decide_eq_true (List.all_eq_true.1 h (n % 255) (by simp; omega))
  rw [tab_get _ (by omega), exp_mod] at h1
  exact fun e => h1 (by rw [e])
theorem exp_inj {m n : Nat} (h : gexp m = gexp n) : m % 255 = n % 255 := by
  rw [← exp_mod m, ← exp_mod n] at h
  have h1 := glog_exp (m % 255) (by omega)
  rw [h, glog_exp (n % 255) (by omega)] at h1
  exact h1.symm
theorem mul_assoc (a b c : UInt8) : mul a (mul b c) = mul (mul a b) c := by
  by_cases hc : c = 0
  · subst hc; simp only [mul_zero]
  · have h := (glog_lt_exp c hc).2
    rw [← h]
    exact mul_assoc_exp _ a b
theorem mul_log {a b : UInt8} (ha : a ≠ 0) (hb : b ≠ 0) : mul a b = gexp (glog a + glog b) := by
  rw [← exp_add, (glog_lt_exp a ha).2, (glog_lt_exp b hb).2]
theorem mul_eq_zero {a b : UInt8} (h : mul a b = 0) : a = 0 ∨ b = 0 := by
  by_cases ha : a = 0
  · exact .inl ha
  · by_cases hb : b = 0
    · exact .inr hb
    · rw [mul_log ha hb] at h
      exact absurd h (exp_ne _)
/-- The inverse. -/
def inv (a : UInt8) : UInt8 := if a = 0 then 0 else gexp (255 - glog a)
theorem mul_inv {a : UInt8} (h : a ≠ 0) : mul a (inv a) = 1 := by
  have h1 := glog_lt_exp a h
  unfold inv
  rw [if_neg h]
  have h2 := exp_add (glog a) (255 - glog a)
  rw [h1.2, show glog a + (255 - glog a) = 255 from by omega, exp_255] at h2
  exact h2

/-- The sum (a name of its own: the walk does not look behind it). -/
def add (a b : UInt8) : UInt8 := a ^^^ b
theorem add_comm (a b : UInt8) : add a b = add b a := UInt8.xor_comm _ _
theorem add_assoc (a b c : UInt8) : add (add a b) c = add a (add b c) := UInt8.xor_assoc _ _ _
theorem add_self (a : UInt8) : add a a = 0 := UInt8.xor_self
theorem add_zero (a : UInt8) : add a 0 = a := UInt8.xor_zero
theorem zero_add (a : UInt8) : add 0 a = a := UInt8.zero_xor
theorem mul_add (a b c : UInt8) : mul a (add b c) = add (mul a b) (mul a c) := mul_xor_right a b c
theorem add_mul (a b c : UInt8) : mul (add a b) c = add (mul a c) (mul b c) := mul_xor_left a b c
theorem add_eq_zero {a b : UInt8} (h : add a b = 0) : a = b := by
  have h1 := congrArg (fun x => add x b) h
  simp only [add_assoc, add_self, add_zero, zero_add] at h1
  exact h1

end Go.Proofs.YtenkdikdofhnpaaDoor.Gf
