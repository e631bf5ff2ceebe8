/- The plain laws of code words: the register, the syndromes, the distance. No program in sight. -/
import Derived.Test.YtenkdikdofhnpaaDoorPolyL
namespace Go.Proofs.YtenkdikdofhnpaaDoor
open Gf (add_zero zero_add add_self add_comm add_assoc)
attribute [local irreducible] Gf.mul Gf.add

theorem mul_acm (a b c : UInt8) : Gf.mul a (Gf.mul b c) = Gf.mul b (Gf.mul a c) := by rw [Gf.mul_assoc, Gf.mul_comm a b, ← Gf.mul_assoc]
theorem mul_arm (a b x : UInt8) : Gf.mul x (Gf.mul a b) = Gf.mul a (Gf.mul b x) := by rw [Gf.mul_assoc, Gf.mul_comm x a, ← Gf.mul_assoc, Gf.mul_comm x b]
/-- The value of a word, the highest first. -/
def hv (x : UInt8) (l : List UInt8) : UInt8 := l.foldl (fun v c => Gf.add (Gf.mul v x) c) 0
theorem hv_nil (x : UInt8) : hv x [] = 0 := rfl
theorem hv_snoc (x : UInt8) (l : List UInt8) (c : UInt8) : hv x (l ++ [c]) = Gf.add (Gf.mul (hv x l) x) c := by
  unfold hv; rw [List.foldl_append]; rfl
theorem hv_take {l : List UInt8} {k : Nat} (x : UInt8) (h : k < l.length) : hv x (l.take (k + 1)) = Gf.add (Gf.mul (hv x (l.take k)) x) (cf l k) := by
  rw [show l.take (k + 1) = l.take k ++ [cf l k] from by rw [List.take_succ_eq_append_getElem h, cf_lt h], hv_snoc]
theorem hv_tab (x : UInt8) (f : Nat → UInt8) : ∀ n, hv x (tab n f) = xsum n fun k => Gf.mul (f k) (xpow x (n - 1 - k))
  | 0 => rfl
  | n + 1 => by
    rw [tab_succ, hv_snoc, hv_tab x f n, xsum, Nat.add_sub_cancel, Nat.sub_self, xpow, Gf.mul_one, Gf.mul_comm, ← xsum_mul]
    congr 1
    refine xsum_congr fun i hi => ?_
    rw [show n - i = (n - 1 - i) + 1 from by omega, xpow]
    exact mul_arm _ _ _
theorem hv_cf (x : UInt8) (l : List UInt8) : hv x l = xsum l.length fun k => Gf.mul (cf l k) (xpow x (l.length - 1 - k)) := by
  have h := hv_tab x (cf l) l.length
  rwa [tab_cf] at h
theorem hv_append (x : UInt8) (a : List UInt8) : ∀ n (f : Nat → UInt8), hv x (a ++ tab n f) = Gf.add (Gf.mul (hv x a) (xpow x n)) (hv x (tab n f))
  | 0, f => by simp [tab, xpow, Gf.mul_one, hv_nil, add_zero]
  | n + 1, f => by
    rw [tab_succ, ← List.append_assoc, hv_snoc, hv_append x a n f, hv_snoc, xpow, Gf.add_mul, add_assoc, Gf.mul_assoc]
/-- Values of sums, and of a word times a number. -/
theorem hv_add (x : UInt8) (n : Nat) (f g : Nat → UInt8) : hv x (tab n fun i => Gf.add (f i) (g i)) = Gf.add (hv x (tab n f)) (hv x (tab n g)) := by
  rw [hv_tab, hv_tab, hv_tab, ← xsum_add]
  exact xsum_congr fun i _ => Gf.add_mul _ _ _
theorem hv_scale (x by_ : UInt8) (n : Nat) (f : Nat → UInt8) : hv x (tab n fun i => Gf.mul (f i) by_) = Gf.mul (hv x (tab n f)) by_ := by
  rw [hv_tab, hv_tab, Gf.mul_comm, ← xsum_mul]
  refine xsum_congr fun i _ => ?_
  rw [Gf.mul_assoc, Gf.mul_comm by_]

/-! ### the register -/
/-- One symbol more; g: the generator's coefficients. -/
def regAt (g r : List UInt8) (c : UInt8) (k : Nat) : UInt8 := Gf.add (cf r (k + 1)) (Gf.mul (Gf.add c (cf r 0)) (cf g (31 - k)))
def regStep (g r : List UInt8) (c : UInt8) : List UInt8 := tab 32 (regAt g r c)
def regOf (g data : List UInt8) : List UInt8 := data.foldl (regStep g) (tab 32 fun _ => 0)
theorem regOf_nil (g : List UInt8) : regOf g [] = tab 32 fun _ => 0 := rfl
theorem regOf_snoc (g data : List UInt8) (c : UInt8) : regOf g (data ++ [c]) = regStep g (regOf g data) c := by
  unfold regOf; rw [List.foldl_append]; rfl
theorem regOf_take {g data : List UInt8} {k : Nat} (h : k < data.length) : regOf g (data.take (k + 1)) = regStep g (regOf g (data.take k)) (cf data k) := by
  rw [show data.take (k + 1) = data.take k ++ [cf data k] from by rw [List.take_succ_eq_append_getElem h, cf_lt h], regOf_snoc]
theorem regOf_tab (g data : List UInt8) : ∃ f, regOf g data = tab 32 f := by
  rcases List.eq_nil_or_concat data with rfl | ⟨l, c, rfl⟩
  · exact ⟨fun _ => 0, rfl⟩
  · rw [List.concat_eq_append, regOf_snoc]; exact ⟨_, rfl⟩
theorem regOf_length (g data : List UInt8) : (regOf g data).length = 32 := by
  obtain ⟨f, h⟩ := regOf_tab g data
  rw [h, tab_length]

theorem reg_value (g : List UInt8) (x : UInt8) (hg : Gf.add (xsum 32 fun i => Gf.mul (cf g i) (xpow x i)) (xpow x 32) = 0) (f : Nat → UInt8) (c : UInt8) :
    hv x (regStep g (tab 32 f) c) = Gf.add (Gf.mul (hv x (tab 32 f)) x) (Gf.mul c (xpow x 32)) := by
  have hg' : (xsum 32 fun i => Gf.mul (cf g i) (xpow x i)) = xpow x 32 := Gf.add_eq_zero hg
  obtain ⟨r, hr⟩ : ∃ r, r = tab 32 f := ⟨_, rfl⟩
  have hl : r.length = 32 := by rw [hr, tab_length]
  rw [← hr]
  have h1 : (xsum 32 fun k => Gf.mul (Gf.mul (Gf.add c (cf r 0)) (cf g (31 - k))) (xpow x (31 - k))) = Gf.mul (Gf.add c (cf r 0)) (xpow x 32) := by
    rw [← hg', ← xsum_mul]
    have := xsum_rev 31 fun i => Gf.mul (Gf.add c (cf r 0)) (Gf.mul (cf g i) (xpow x i))
    rw [← this]
    exact xsum_congr fun i _ => (Gf.mul_assoc _ _ _).symm
  have h2 : Gf.add (Gf.mul (cf r 0) (xpow x 32)) (xsum 32 fun k => Gf.mul (cf r (k + 1)) (xpow x (31 - k))) = Gf.mul (hv x r) x := by
    have e1 := xsum_succ' 32 fun k => Gf.mul (cf r k) (xpow x (32 - k))
    have e2 : (xsum 32 fun k => Gf.mul (cf r (k + 1)) (xpow x (32 - (k + 1)))) = xsum 32 fun k => Gf.mul (cf r (k + 1)) (xpow x (31 - k)) :=
      xsum_congr fun i _ => by rw [show 32 - (i + 1) = 31 - i from by omega]
    rw [e2] at e1
    rw [show (32 : Nat) - 0 = 32 from rfl] at e1
    rw [← e1, xsum, cf_ge (by omega), Gf.mul_zero_left, add_zero, hv_cf, hl, Gf.mul_comm, ← xsum_mul]
    refine xsum_congr fun i hi => ?_
    rw [show 32 - i = (32 - 1 - i) + 1 from by omega, xpow]
    exact (mul_arm _ _ _).symm
  have h3 : hv x (regStep g r c) = Gf.add (xsum 32 fun k => Gf.mul (cf r (k + 1)) (xpow x (31 - k))) (Gf.mul (Gf.add c (cf r 0)) (xpow x 32)) := by
    rw [← h1, ← xsum_add, regStep, hv_tab]
    refine xsum_congr fun i _ => ?_
    rw [regAt, Gf.add_mul]
  rw [h3, ← h2, Gf.add_mul]
  rw [add_comm (Gf.mul c _), ← add_assoc, add_comm (xsum 32 _)]
/-- A generator's root is a root of each code word. -/
theorem word_value (g : List UInt8) (x : UInt8) (hg : Gf.add (xsum 32 fun i => Gf.mul (cf g i) (xpow x i)) (xpow x 32) = 0) (data : List UInt8) :
    hv x (data ++ regOf g data) = 0 := by
  have key : ∀ k, k ≤ data.length → hv x (regOf g (data.take k)) = Gf.mul (hv x (data.take k)) (xpow x 32) := by
    intro k
    induction k with
    | zero => intro _; rw [List.take_zero, regOf_nil, hv_nil, Gf.mul_zero_left, hv_tab, xsum_zero']; exact fun i _ => Gf.mul_zero_left _
    | succ k ih =>
      intro hk
      obtain ⟨f, hf⟩ := regOf_tab g (data.take k)
      have := ih (by omega)
      rw [regOf_take (by omega), hf, reg_value g x hg, ← hf, this, hv_take x (by omega), Gf.add_mul]
      rw [← Gf.mul_assoc, Gf.mul_comm (xpow x 32), Gf.mul_assoc]
  have h := key data.length (Nat.le_refl _)
  rw [List.take_length] at h
  obtain ⟨f, hf⟩ := regOf_tab g data
  rw [hf, hv_append, ← hf, h, add_self]

/-! ### the distance -/
def lsum (l : List Nat) (f : Nat → UInt8) : UInt8 := l.foldr (fun i s => Gf.add (f i) s) 0
theorem lsum_cons (i : Nat) (l : List Nat) (f : Nat → UInt8) : lsum (i :: l) f = Gf.add (f i) (lsum l f) := rfl
theorem lsum_add (l : List Nat) (f g : Nat → UInt8) : lsum l (fun i => Gf.add (f i) (g i)) = Gf.add (lsum l f) (lsum l g) := by
  induction l with
  | nil => exact (add_zero 0).symm
  | cons i l ih => rw [lsum_cons, lsum_cons, lsum_cons, ih, add_swap]
theorem lsum_mul (l : List Nat) (c : UInt8) (f : Nat → UInt8) : lsum l (fun i => Gf.mul c (f i)) = Gf.mul c (lsum l f) := by
  induction l with
  | nil => exact (Gf.mul_zero c).symm
  | cons i l ih => rw [lsum_cons, lsum_cons, ih, Gf.mul_add]
theorem lsum_congr {l : List Nat} {f g : Nat → UInt8} (h : ∀ i ∈ l, f i = g i) : lsum l f = lsum l g := by
  induction l with
  | nil => rfl
  | cons i l ih => rw [lsum_cons, lsum_cons, h i List.mem_cons_self, ih fun j hj => h j (List.mem_cons_of_mem _ hj)]
theorem lsum_append (a b : List Nat) (f : Nat → UInt8) : lsum (a ++ b) f = Gf.add (lsum a f) (lsum b f) := by
  induction a with
  | nil => exact (zero_add _).symm
  | cons i l ih => rw [List.cons_append, lsum_cons, lsum_cons, ih, add_assoc]
theorem lsum_range (f : Nat → UInt8) : ∀ n, lsum (List.range n) f = xsum n f
  | 0 => rfl
  | n + 1 => by
    rw [List.range_succ, lsum_append, lsum_range f n, xsum]
    congr 1
    exact add_zero _
theorem lsum_filter (p : Nat → Bool) (f : Nat → UInt8) (l : List Nat) (h : ∀ i ∈ l, p i = false → f i = 0) : lsum (l.filter p) f = lsum l f := by
  induction l with
  | nil => rfl
  | cons i l ih =>
    have ih := ih fun j hj => h j (List.mem_cons_of_mem _ hj)
    cases hp : p i
    · rw [List.filter_cons_of_neg (by simp [hp]), ih, lsum_cons, h i List.mem_cons_self hp, zero_add]
    · rw [List.filter_cons_of_pos hp, lsum_cons, lsum_cons, ih]
/-- Vandermonde: who is 0 at so many powers is 0. -/
theorem vander (X : Nat → UInt8) : ∀ (S : List Nat) (c : Nat → UInt8), S.Pairwise (fun i k => X i ≠ X k) →
    (∀ j, j < S.length → lsum S (fun i => Gf.mul (c i) (xpow (X i) j)) = 0) → ∀ i ∈ S, c i = 0
  | [], _, _, _, _, h => by cases h
  | i0 :: S, c, hp, hz, i, hi => by
    obtain ⟨hp1, hp2⟩ := List.pairwise_cons.1 hp
    have hS : ∀ i ∈ S, c i = 0 := by
      intro i hi
      have h1 := vander X S (fun i => Gf.mul (c i) (Gf.add (X i) (X i0))) hp2 (by
        intro j hj
        have e1 := hz (j + 1) (by simpa using hj)
        have e0 := hz j (by simp; omega)
        have e2 : lsum (i0 :: S) (fun i => Gf.mul (Gf.mul (c i) (Gf.add (X i) (X i0))) (xpow (X i) j)) = 0 := by
          have : lsum (i0 :: S) (fun i => Gf.mul (Gf.mul (c i) (Gf.add (X i) (X i0))) (xpow (X i) j))
              = Gf.add (lsum (i0 :: S) fun i => Gf.mul (c i) (xpow (X i) (j + 1))) (Gf.mul (X i0) (lsum (i0 :: S) fun i => Gf.mul (c i) (xpow (X i) j))) := by
            rw [← lsum_mul, ← lsum_add]
            refine lsum_congr fun i _ => ?_
            rw [Gf.mul_add, Gf.add_mul, xpow]
            congr 1
            · rw [← Gf.mul_assoc, Gf.mul_comm (X i)]
            · rw [Gf.mul_comm (c i) (X i0), Gf.mul_assoc]
          rw [this, e1, e0, Gf.mul_zero, add_zero]
        rw [lsum_cons, add_self, Gf.mul_zero, Gf.mul_zero_left, zero_add] at e2
        exact e2) i hi
      rcases Gf.mul_eq_zero h1 with h1 | h1
      · exact h1
      · exact absurd (Gf.add_eq_zero h1).symm (hp1 i hi)
    rcases List.mem_cons.1 hi with rfl | hi
    · have e0 := hz 0 (by simp)
      rw [lsum_cons, lsum_congr (g := fun _ => 0) (fun j hj => by rw [hS j hj, Gf.mul_zero_left]), xpow, Gf.mul_one] at e0
      have : lsum S (fun _ => 0) = 0 := by
        have := lsum_mul S 0 fun _ => 0
        rw [Gf.mul_zero_left] at this
        rw [Gf.mul_zero_left] at this
        exact this
      rw [this, add_zero] at e0
      exact e0
    · exact hS i hi

theorem xpow_exp (m : Nat) : ∀ j, xpow (Gf.gexp m) j = Gf.gexp (m * j)
  | 0 => rfl
  | j + 1 => by rw [xpow, xpow_exp m j, Gf.exp_add, Nat.mul_succ]
/-- Where two words differ. -/
def diffs (x y : List UInt8) : List Nat := (List.range x.length).filter fun i => cf x i != cf y i
/-- Two code words of one length that aren't the same differ in more than 32 places. -/
theorem apart (x y : List UInt8) (hl : x.length = y.length) (hn : x.length ≤ 255) (hx : ∀ j, j < 32 → hv (Gf.gexp j) x = 0) (hy : ∀ j, j < 32 → hv (Gf.gexp j) y = 0)
    (hd : (diffs x y).length ≤ 32) : x = y := by
  have hz : ∀ i ∈ diffs x y, Gf.add (cf x i) (cf y i) = 0 := by
    refine vander (fun i => Gf.gexp (x.length - 1 - i)) (diffs x y) (fun i => Gf.add (cf x i) (cf y i)) ?_ ?_
    · have h1 : (List.range x.length).Pairwise (fun i k => i < x.length → k < x.length → Gf.gexp (x.length - 1 - i) ≠ Gf.gexp (x.length - 1 - k)) := by
        refine List.Pairwise.imp ?_ (List.pairwise_lt_range (n := x.length))
        intro i k hik hi hk e
        have := Gf.exp_inj e
        omega
      have h2 := List.Pairwise.filter (fun i => cf x i != cf y i) h1
      refine List.Pairwise.imp_of_mem ?_ h2
      intro i k hi hk h
      exact h (List.mem_range.1 (List.mem_filter.1 hi).1) (List.mem_range.1 (List.mem_filter.1 hk).1)
    · intro j hj
      have h1 : lsum (diffs x y) (fun i => Gf.mul (Gf.add (cf x i) (cf y i)) (xpow (Gf.gexp (x.length - 1 - i)) j)) = xsum x.length (fun i => Gf.mul (Gf.add (cf x i) (cf y i)) (xpow (Gf.gexp (x.length - 1 - i)) j)) := by
        rw [← lsum_range]
        refine lsum_filter _ _ _ fun i _ hp => ?_
        have : cf x i = cf y i := by simpa using hp
        rw [this, add_self, Gf.mul_zero_left]
      rw [h1]
      have e1 := hx j (by omega)
      have e2 := hy j (by omega)
      rw [hv_cf] at e1 e2
      rw [← hl] at e2
      have : xsum x.length (fun i => Gf.mul (Gf.add (cf x i) (cf y i)) (xpow (Gf.gexp (x.length - 1 - i)) j)) =
          Gf.add (xsum x.length fun k => Gf.mul (cf x k) (xpow (Gf.gexp j) (x.length - 1 - k))) (xsum x.length fun k => Gf.mul (cf y k) (xpow (Gf.gexp j) (x.length - 1 - k))) := by
        rw [← xsum_add]
        refine xsum_congr fun i _ => ?_
        rw [Gf.add_mul, xpow_exp, xpow_exp, Nat.mul_comm]
      rw [this, e1, e2, add_zero]
  apply cf_ext hl
  intro i
  by_cases hi : i < x.length
  · by_cases he : cf x i = cf y i
    · exact he
    · exact absurd (Gf.add_eq_zero (hz i (List.mem_filter.2 ⟨List.mem_range.2 hi, by simpa using he⟩))) he
  · rw [cf_ge (by omega), cf_ge (by omega)]

/-- A word's syndromes. -/
def synd (word : List UInt8) : List UInt8 := tab 32 fun j => hv (Gf.gexp j) word
theorem synd_zero {word : List UInt8} (h : ∀ j, j < 32 → hv (Gf.gexp j) word = 0) : synd word = tab 32 fun _ => 0 := tab_congr h

end Go.Proofs.YtenkdikdofhnpaaDoor
