/- Plain laws on lists of bytes as polynomials over GF(256). -/
import Derived.Test.YtenkdikdofhnpaaDoorGf
namespace Go.Proofs.YtenkdikdofhnpaaDoor
open Gf (add_zero zero_add add_self add_comm add_assoc)

/-- The coefficient at a place. -/
def cf (p : List UInt8) (i : Nat) : UInt8 := p.getD i 0
theorem cf_lt {p : List UInt8} {i : Nat} (h : i < p.length) : cf p i = p[i] := by simp [cf, h]
theorem cf_ge {p : List UInt8} {i : Nat} (h : p.length ≤ i) : cf p i = 0 := by simp [cf, h]
theorem cf_cons_zero (b : UInt8) (p : List UInt8) : cf (b :: p) 0 = b := rfl
theorem cf_cons_succ (b : UInt8) (p : List UInt8) (i : Nat) : cf (b :: p) (i + 1) = cf p i := by simp [cf]
theorem cf_ext {p q : List UInt8} (hl : p.length = q.length) (h : ∀ i, cf p i = cf q i) : p = q := by
  apply List.ext_getElem hl
  intro i h1 h2
  have := h i
  rwa [cf_lt h1, cf_lt h2] at this
theorem cf_append (p q : List UInt8) (i : Nat) : cf (p ++ q) i = if i < p.length then cf p i else cf q (i - p.length) := by
  unfold cf
  by_cases h : i < p.length
  · simp [h, List.getElem?_append_left]
  · rw [if_neg h]
    simp [List.getD_eq_getElem?_getD, List.getElem?_append_right (Nat.le_of_not_lt h)]
theorem cf_take (p : List UInt8) (n i : Nat) : cf (p.take n) i = if i < n then cf p i else 0 := by
  unfold cf
  by_cases h : i < n
  · simp [h, List.getD_eq_getElem?_getD]
  · rw [if_neg h, List.getD_eq_getElem?_getD, List.getElem?_eq_none (by simp; omega)]; rfl
theorem cf_drop (p : List UInt8) (n i : Nat) : cf (p.drop n) i = cf p (n + i) := by simp [cf]
/-- n coefficients. -/
def tab (n : Nat) (f : Nat → UInt8) : List UInt8 := (List.range n).map f
theorem tab_length (n : Nat) (f : Nat → UInt8) : (tab n f).length = n := by simp [tab]
theorem tab_succ (n : Nat) (f : Nat → UInt8) : tab (n + 1) f = tab n f ++ [f n] := by simp [tab, List.range_succ]
theorem cf_tab (n : Nat) (f : Nat → UInt8) (i : Nat) : cf (tab n f) i = if i < n then f i else 0 := by
  unfold cf tab
  by_cases h : i < n
  · simp [h]
  · simp [h]
theorem tab_cf (p : List UInt8) : tab p.length (cf p) = p := by
  apply cf_ext (tab_length _ _)
  intro i
  rw [cf_tab]
  by_cases h : i < p.length
  · rw [if_pos h]
  · rw [if_neg h, cf_ge (Nat.le_of_not_lt h)]
theorem tab_congr {n : Nat} {f g : Nat → UInt8} (h : ∀ i, i < n → f i = g i) : tab n f = tab n g := by
  apply cf_ext (by simp [tab_length])
  intro i
  rw [cf_tab, cf_tab]
  by_cases hi : i < n
  · rw [if_pos hi, if_pos hi, h i hi]
  · rw [if_neg hi, if_neg hi]

/-- How long it is without noughts at its end. -/
def tlen : List UInt8 → Nat
  | [] => 0
  | b :: bs => if tlen bs = 0 then (if b = 0 then 0 else 1) else tlen bs + 1
theorem tlen_le : ∀ p : List UInt8, tlen p ≤ p.length
  | [] => Nat.le_refl _
  | b :: bs => by
    have := tlen_le bs
    unfold tlen
    simp only [List.length_cons]
    split
    · split <;> omega
    · omega
theorem tlen_zero : ∀ (p : List UInt8) (i : Nat), tlen p ≤ i → cf p i = 0
  | [], i, _ => cf_ge (Nat.zero_le _)
  | b :: bs, i, h => by
    unfold tlen at h
    cases i with
    | zero =>
      rw [cf_cons_zero]
      split at h
      · split at h
        · assumption
        · omega
      · omega
    | succ i =>
      rw [cf_cons_succ]
      apply tlen_zero bs i
      split at h <;> omega
theorem tlen_ne : ∀ (p : List UInt8), tlen p ≠ 0 → cf p (tlen p - 1) ≠ 0
  | [], h => absurd rfl h
  | b :: bs, h => by
    unfold tlen at h ⊢
    by_cases h0 : tlen bs = 0
    · rw [if_pos h0] at h ⊢
      by_cases hb : b = 0
      · rw [if_pos hb] at h; exact absurd rfl h
      · rw [if_neg hb]; exact hb
    · rw [if_neg h0] at h ⊢
      have := tlen_ne bs h0
      rw [Nat.add_sub_cancel]
      obtain ⟨m, hm⟩ := Nat.exists_eq_succ_of_ne_zero h0
      rw [hm] at this ⊢
      rw [cf_cons_succ]
      exact this
theorem tlen_eq {p : List UInt8} {k : Nat} (h1 : ∀ i, k ≤ i → cf p i = 0) (h2 : k = 0 ∨ cf p (k - 1) ≠ 0) : tlen p = k := by
  rcases Nat.lt_trichotomy (tlen p) k with h | h | h
  · rcases h2 with rfl | h2
    · omega
    · exact absurd (tlen_zero p (k - 1) (by omega)) h2
  · exact h
  · exact absurd (h1 (tlen p - 1) (by omega)) (tlen_ne p (by omega))
def trim (p : List UInt8) : List UInt8 := p.take (tlen p)
theorem trim_length (p : List UInt8) : (trim p).length = tlen p := by simp [trim, tlen_le]
theorem cf_trim (p : List UInt8) (i : Nat) : cf (trim p) i = cf p i := by
  rw [trim, cf_take]
  split
  · rfl
  · rw [tlen_zero p i (by omega)]
theorem tlen_congr {p q : List UInt8} (h : ∀ i, cf p i = cf q i) : tlen p = tlen q := by
  apply tlen_eq
  · intro i hi; rw [h]; exact tlen_zero q i hi
  · by_cases h0 : tlen q = 0
    · exact .inl h0
    · exact .inr (by rw [h]; exact tlen_ne q h0)
/-- One polynomial has one trimmed form. -/
theorem trim_ext {p q : List UInt8} (h : ∀ i, cf p i = cf q i) : trim p = trim q :=
  cf_ext (by rw [trim_length, trim_length, tlen_congr h]) fun i => by rw [cf_trim, cf_trim, h]
theorem trim_trim (p : List UInt8) : trim (trim p) = trim p := trim_ext (cf_trim p)
theorem trim_eq_iff {p q : List UInt8} : trim p = trim q ↔ ∀ i, cf p i = cf q i :=
  ⟨fun h i => by rw [← cf_trim p, h, cf_trim], trim_ext⟩

attribute [local irreducible] Gf.mul Gf.add
/-- Sums. -/
def xsum : Nat → (Nat → UInt8) → UInt8
  | 0, _ => 0
  | n + 1, f => Gf.add (xsum n f) (f n)
theorem xsum_congr {n : Nat} {f g : Nat → UInt8} (h : ∀ i, i < n → f i = g i) : xsum n f = xsum n g := by
  induction n with
  | zero => rfl
  | succ n ih => rw [xsum, xsum, ih fun i hi => h i (by omega), h n (by omega)]
theorem add_swap (a b c d : UInt8) : Gf.add (Gf.add a b) (Gf.add c d) = Gf.add (Gf.add a c) (Gf.add b d) := by
  rw [add_assoc, add_assoc, ← add_assoc b c d, add_comm b c, add_assoc c b d]
theorem add_left_comm (a b c : UInt8) : Gf.add a (Gf.add b c) = Gf.add b (Gf.add a c) := by rw [← add_assoc, add_comm a b, add_assoc]
theorem xsum_zero (n : Nat) : xsum n (fun _ => 0) = 0 := by
  induction n with
  | zero => rfl
  | succ n ih => rw [xsum, ih, add_zero]
theorem xsum_zero' {n : Nat} {f : Nat → UInt8} (h : ∀ i, i < n → f i = 0) : xsum n f = 0 := by rw [xsum_congr h, xsum_zero]
theorem xsum_add (n : Nat) (f g : Nat → UInt8) : xsum n (fun i => Gf.add (f i) (g i)) = Gf.add (xsum n f) (xsum n g) := by
  induction n with
  | zero => simp only [xsum]; rw [zero_add]
  | succ n ih => simp only [xsum, ih]; rw [add_swap]
theorem xsum_mul (n : Nat) (c : UInt8) (f : Nat → UInt8) : xsum n (fun i => Gf.mul c (f i)) = Gf.mul c (xsum n f) := by
  induction n with
  | zero => simp only [xsum]; rw [Gf.mul_zero]
  | succ n ih => simp only [xsum, ih]; rw [Gf.mul_add]
theorem xsum_succ' (n : Nat) (f : Nat → UInt8) : xsum (n + 1) f = Gf.add (f 0) (xsum n fun i => f (i + 1)) := by
  induction n with
  | zero => simp only [xsum]; rw [zero_add, add_zero]
  | succ n ih => rw [xsum, ih, add_assoc]; rfl
/-- What lies beyond is nought. -/
theorem xsum_more {n m : Nat} {f : Nat → UInt8} (h : n ≤ m) (hz : ∀ i, n ≤ i → f i = 0) : xsum m f = xsum n f := by
  induction m with
  | zero => rw [show n = 0 from by omega]
  | succ m ih =>
    rcases Nat.lt_or_ge m n with h' | h'
    · rw [show n = m + 1 from by omega]
    · rw [xsum, ih h', hz m h', add_zero]
theorem xsum_rev (n : Nat) (f : Nat → UInt8) : xsum (n + 1) (fun i => f (n - i)) = xsum (n + 1) f := by
  induction n generalizing f with
  | zero => rfl
  | succ n ih =>
    rw [xsum_succ', Nat.sub_zero]
    rw [show xsum (n + 1) (fun i => f (n + 1 - (i + 1))) = xsum (n + 1) (fun i => f (n - i)) from xsum_congr fun i _ => by rw [Nat.add_sub_add_right]]
    rw [ih, add_comm]; rfl

/-- Products. -/
def conv (p q : List UInt8) (k : Nat) : UInt8 := xsum (k + 1) fun i => Gf.mul (cf p i) (cf q (k - i))
def pmul (p q : List UInt8) : List UInt8 := trim (tab (p.length + q.length) (conv p q))
def padd (p q : List UInt8) : List UInt8 := trim (tab (max p.length q.length) fun i => Gf.add (cf p i) (cf q i))
theorem conv_ge {p q : List UInt8} {k : Nat} (h : p.length + q.length ≤ k + 1) : conv p q k = 0 := by
  refine xsum_zero' fun i hi => ?_
  by_cases h1 : p.length ≤ i
  · rw [cf_ge h1, Gf.mul_zero_left]
  · rw [cf_ge (p := q) (by omega), Gf.mul_zero]
theorem cf_pmul (p q : List UInt8) (k : Nat) : cf (pmul p q) k = conv p q k := by
  rw [pmul, cf_trim, cf_tab]
  split
  · rfl
  · rw [conv_ge (by omega)]
theorem cf_padd (p q : List UInt8) (k : Nat) : cf (padd p q) k = Gf.add (cf p k) (cf q k) := by
  rw [padd, cf_trim, cf_tab]
  split
  · rfl
  · rw [cf_ge (by omega), cf_ge (p := q) (by omega), add_zero]
theorem conv_comm (p q : List UInt8) (k : Nat) : conv p q k = conv q p k := by
  unfold conv
  rw [← xsum_rev]
  refine xsum_congr fun i hi => ?_
  rw [show k - (k - i) = i from by omega, Gf.mul_comm]
theorem conv_congr {p p' q q' : List UInt8} (hp : ∀ i, cf p i = cf p' i) (hq : ∀ i, cf q i = cf q' i) (k : Nat) : conv p q k = conv p' q' k :=
  xsum_congr fun i _ => by rw [hp, hq]
theorem conv_cons_zero (a : UInt8) (p q : List UInt8) : conv (a :: p) q 0 = Gf.mul a (cf q 0) := by
  simp only [conv, xsum]; rw [zero_add]; rfl
theorem conv_cons_succ (a : UInt8) (p q : List UInt8) (k : Nat) : conv (a :: p) q (k + 1) = Gf.add (Gf.mul a (cf q (k + 1))) (conv p q k) := by
  rw [conv, xsum_succ', cf_cons_zero, Nat.sub_zero]
  congr 1
  refine xsum_congr fun i _ => ?_
  rw [cf_cons_succ, Nat.add_sub_add_right]

/-- The value, by Horner. -/
def peval (p : List UInt8) (x : UInt8) : UInt8 := p.foldr (fun c out => Gf.add (Gf.mul out x) c) 0
theorem peval_nil (x : UInt8) : peval [] x = 0 := rfl
theorem peval_cons (c : UInt8) (p : List UInt8) (x : UInt8) : peval (c :: p) x = Gf.add (Gf.mul (peval p x) x) c := rfl
def xpow (x : UInt8) : Nat → UInt8
  | 0 => 1
  | n + 1 => Gf.mul (xpow x n) x
def fev (n : Nat) (f : Nat → UInt8) (x : UInt8) : UInt8 := xsum n fun i => Gf.mul (f i) (xpow x i)
theorem fev_succ' (n : Nat) (f : Nat → UInt8) (x : UInt8) : fev (n + 1) f x = Gf.add (f 0) (Gf.mul x (fev n (fun i => f (i + 1)) x)) := by
  rw [fev, xsum_succ', fev, ← xsum_mul]
  congr 1
  · rw [xpow, Gf.mul_one]
  · refine xsum_congr fun i _ => ?_
    rw [xpow, Gf.mul_assoc, Gf.mul_comm]
theorem peval_fev (p : List UInt8) (x : UInt8) : ∀ n, p.length ≤ n → peval p x = fev n (cf p) x := by
  induction p with
  | nil => intro n _; rw [peval_nil, fev, xsum_zero']; intro i _; rw [cf_ge (Nat.zero_le _), Gf.mul_zero_left]
  | cons c p ih =>
    intro n hn
    cases n with
    | zero => simp at hn
    | succ n =>
      rw [fev_succ', peval_cons, ih n (by simpa using hn), cf_cons_zero, add_comm, Gf.mul_comm]
      congr 2
theorem peval_congr {p q : List UInt8} (h : ∀ i, cf p i = cf q i) (x : UInt8) : peval p x = peval q x := by
  rw [peval_fev p x (max p.length q.length) (by omega), peval_fev q x (max p.length q.length) (by omega)]
  exact xsum_congr fun i _ => by rw [h]
theorem peval_trim (p : List UInt8) (x : UInt8) : peval (trim p) x = peval p x := peval_congr (cf_trim p) x
theorem peval_padd (p q : List UInt8) (x : UInt8) : peval (padd p q) x = Gf.add (peval p x) (peval q x) := by
  obtain ⟨n, hn⟩ : ∃ n, n = max (padd p q).length (max p.length q.length) := ⟨_, rfl⟩
  rw [peval_fev _ x n (by omega), peval_fev p x n (by omega), peval_fev q x n (by omega), fev, fev, fev, ← xsum_add]
  refine xsum_congr fun i _ => ?_
  rw [cf_padd, Gf.add_mul]
theorem fev_conv (q : List UInt8) (x : UInt8) : ∀ (p : List UInt8) (n : Nat), p.length + q.length ≤ n → fev n (conv p q) x = Gf.mul (peval p x) (peval q x) := by
  intro p
  induction p with
  | nil =>
    intro n _
    rw [peval_nil, Gf.mul_zero_left, fev, xsum_zero']
    intro i _
    rw [show conv [] q i = 0 from xsum_zero' fun j _ => by rw [cf_ge (Nat.zero_le _), Gf.mul_zero_left], Gf.mul_zero_left]
  | cons a p ih =>
    intro n hn
    rw [List.length_cons] at hn
    obtain ⟨n, rfl⟩ : ∃ m, n = m + 1 := ⟨n - 1, by omega⟩
    have h1 : fev (n + 1) (fun k => Gf.mul a (cf q k)) x = Gf.mul a (peval q x) := by
      rw [peval_fev q x (n + 1) (by omega), fev, fev, ← xsum_mul]
      exact xsum_congr fun i _ => (Gf.mul_assoc _ _ _).symm
    have h2 : fev n (conv p q) x = Gf.mul (peval p x) (peval q x) := ih n (by omega)
    rw [fev_succ', conv_cons_zero]
    rw [show (fun i => conv (a :: p) q (i + 1)) = fun i => Gf.add (Gf.mul a (cf q (i + 1))) (conv p q i) from funext fun i => conv_cons_succ a p q i]
    have h3 : fev n (fun i => Gf.add (Gf.mul a (cf q (i + 1))) (conv p q i)) x = Gf.add (fev n (fun i => Gf.mul a (cf q (i + 1))) x) (fev n (conv p q) x) := by
      rw [fev, fev, fev, ← xsum_add]
      refine xsum_congr fun i _ => ?_
      rw [Gf.add_mul]
    rw [h3, Gf.mul_add, ← add_assoc, ← fev_succ' n (fun k => Gf.mul a (cf q k)) x, h1, h2, peval_cons]
    rw [Gf.add_mul, add_comm, Gf.mul_assoc, Gf.mul_comm x]
theorem peval_pmul (p q : List UInt8) (x : UInt8) : peval (pmul p q) x = Gf.mul (peval p x) (peval q x) := by
  rw [peval_fev _ x (max (pmul p q).length (p.length + q.length)) (by omega), ← fev_conv q x p (max (pmul p q).length (p.length + q.length)) (by omega)]
  exact xsum_congr fun i _ => by rw [cf_pmul]

end Go.Proofs.YtenkdikdofhnpaaDoor
