/- The places of a keyed order, in plain numbers: a network of four rounds, there and back; a walk of steps till what comes is a place. No program in sight. -/
import Derived.Lib.Hide
namespace Go.Proofs.YtmngcnhnpfnloaaDoor

/-- f, k times. -/
def itr (f : Nat → Nat) : Nat → Nat → Nat
  | 0, x => x
  | k + 1, x => f (itr f k x)
theorem itr_add (f : Nat → Nat) (x : Nat) (i : Nat) : ∀ j, itr f (i + j) x = itr f j (itr f i x)
  | 0 => rfl
  | j + 1 => by rw [← Nat.add_assoc, itr, itr, itr_add f x i j]
theorem itr_lt {f : Nat → Nat} {N : Nat} (h : ∀ x, x < N → f x < N) {x : Nat} (hx : x < N) : ∀ k, itr f k x < N
  | 0 => hx
  | k + 1 => h _ (itr_lt h hx k)
theorem itr_back {f g : Nat → Nat} {N : Nat} (hf : ∀ x, x < N → f x < N) (hg : ∀ x, x < N → g (f x) = x) {x : Nat} (hx : x < N) : ∀ k j, j ≤ k → itr g j (itr f k x) = itr f (k - j) x
  | k, 0, _ => rfl
  | k, j + 1, h => by
    rw [itr, itr_back hf hg hx k j (by omega), show k - j = (k - (j + 1)) + 1 from by omega, itr, hg _ (itr_lt hf hx _)]

/-- Of more numbers than there are places two are one. -/
theorem pigeon : ∀ (N : Nat) (h : Nat → Nat), (∀ i, i ≤ N → h i < N) → ∃ i j, i < j ∧ j ≤ N ∧ h i = h j
  | 0, h, hh => absurd (hh 0 (Nat.le_refl _)) (Nat.not_lt_zero _)
  | N + 1, h, hh => by
    by_cases he : ∃ i, i ≤ N ∧ h i = h (N + 1)
    · obtain ⟨i, hi, e⟩ := he
      exact ⟨i, N + 1, by omega, Nat.le_refl _, e⟩
    · have hne : ∀ i, i ≤ N → h i ≠ h (N + 1) := fun i hi e => he ⟨i, hi, e⟩
      obtain ⟨i, j, hij, hj, e⟩ := pigeon N (fun i => if h i = N then h (N + 1) else h i) (fun i hi => by
        have h1 := hh i (by omega)
        have h2 := hh (N + 1) (Nat.le_refl _)
        have h3 := hne i hi
        show (if h i = N then h (N + 1) else h i) < N
        by_cases hN : h i = N
        · rw [if_pos hN]; omega
        · rw [if_neg hN]; omega)
      refine ⟨i, j, hij, by omega, ?_⟩
      have hi1 := hne i (by omega)
      have hj1 := hne j (by omega)
      by_cases h1 : h i = N
      · by_cases h2 : h j = N
        · rw [h1, h2]
        · rw [if_pos h1, if_neg h2] at e; exact absurd e.symm hj1
      · by_cases h2 : h j = N
        · rw [if_neg h1, if_pos h2] at e; exact absurd e hi1
        · rw [if_neg h1, if_neg h2] at e; exact e

theorem least (P : Nat → Prop) : ∀ k, P k → ∃ m, m ≤ k ∧ P m ∧ ∀ j, j < m → ¬ P j := by
  intro k
  induction k using Nat.strongRecOn with
  | _ k ih =>
    intro hk
    by_cases h : ∃ j, j < k ∧ P j
    · obtain ⟨j, hj, hp⟩ := h
      obtain ⟨m, hm, h1, h2⟩ := ih j hj hp
      exact ⟨m, by omega, h1, h2⟩
    · exact ⟨k, Nat.le_refl _, hk, fun j hj hp => h ⟨j, hj, hp⟩⟩

/-- k steps lead to the first place. -/
structure First (f : Nat → Nat) (n x k : Nat) : Prop where
  pos : 1 ≤ k
  here : itr f k x < n
  rest : ∀ j, 1 ≤ j → j < k → n ≤ itr f j x
theorem First.only {f : Nat → Nat} {n x k k' : Nat} (h : First f n x k) (h' : First f n x k') : k = k' := by
  rcases Nat.lt_trichotomy k k' with hlt | he | hlt
  · have := h'.rest k h.pos hlt; have := h.here; omega
  · exact he
  · have := h.rest k' h'.pos hlt; have := h'.here; omega
/-- There are such steps: the steps of a number lead back to it. -/
theorem first_of {f g : Nat → Nat} {N n x : Nat} (hf : ∀ x, x < N → f x < N) (hg : ∀ x, x < N → g (f x) = x) (hn : n ≤ N) (hx : x < n) : ∃ k, First f n x k ∧ k ≤ N := by
  obtain ⟨i, j, hij, hj, e⟩ := pigeon N (fun i => itr f i x) (fun i _ => itr_lt hf (by omega) i)
  have hb : itr f (j - i) x = x := by
    have h1 := itr_back (g := g) hf hg (show x < N by omega) j i (by omega)
    have h2 := itr_back (g := g) hf hg (show x < N by omega) i i (Nat.le_refl _)
    rw [e, h1, Nat.sub_self] at h2
    exact h2
  obtain ⟨m, hm, ⟨h1, h2⟩, h3⟩ := least (fun k => 1 ≤ k ∧ itr f k x < n) (j - i) ⟨by omega, by rw [hb]; exact hx⟩
  exact ⟨m, ⟨h1, h2, fun t ht htm => by
    rcases Nat.lt_or_ge (itr f t x) n with h | h
    · exact absurd ⟨ht, h⟩ (h3 t htm)
    · exact h⟩, by omega⟩
/-- The way back is as long. -/
theorem First.back {f g : Nat → Nat} {N n x k : Nat} (h : First f n x k) (hf : ∀ x, x < N → f x < N) (hg : ∀ x, x < N → g (f x) = x) (hn : n ≤ N) (hx : x < n) : First g n (itr f k x) k ∧ itr g k (itr f k x) = x := by
  have hxN : x < N := by omega
  have h0 := itr_back (g := g) hf hg hxN k k (Nat.le_refl _)
  rw [Nat.sub_self] at h0
  refine ⟨⟨h.pos, by rw [h0]; exact hx, fun j hj hjk => ?_⟩, h0⟩
  rw [itr_back (g := g) hf hg hxN k j (by omega)]
  exact h.rest _ (by omega) (by omega)

/-- The place. -/
def place (f : Nat → Nat) (n : Nat) : Nat → Nat → Nat
  | 0, x => f x
  | k + 1, x => if f x < n then f x else place f n k (f x)
theorem place_at {f : Nat → Nat} {n : Nat} : ∀ (N x k : Nat), First f n x k → k ≤ N → place f n N x = itr f k x
  | 0, x, k, h, hk => by have := h.pos; omega
  | N + 1, x, k, h, hk => by
    rw [place]
    by_cases h1 : f x < n
    · rw [if_pos h1]
      have : k = 1 := h.only ⟨Nat.le_refl _, h1, fun j a b => by omega⟩
      subst this
      rfl
    · rw [if_neg h1]
      have hk1 : k ≠ 1 := by intro e; subst e; exact h1 h.here
      have hp := h.pos
      obtain ⟨k', rfl⟩ : ∃ k', k = k' + 1 := ⟨k - 1, by omega⟩
      have e1 : ∀ j, itr f (j + 1) x = itr f j (f x) := fun j => by rw [Nat.add_comm, itr_add]; rfl
      rw [e1]
      refine place_at N (f x) k' ⟨by omega, by rw [← e1]; exact h.here, fun j a b => ?_⟩ (by omega)
      rw [← e1]
      exact h.rest _ (by omega) (by omega)
theorem place_lt {f g : Nat → Nat} {N n x : Nat} (hf : ∀ x, x < N → f x < N) (hg : ∀ x, x < N → g (f x) = x) (hn : n ≤ N) (hx : x < n) : place f n N x < n := by
  obtain ⟨k, h, hk⟩ := first_of hf hg hn hx
  rw [place_at N x k h hk]
  exact h.here
theorem place_back {f g : Nat → Nat} {N n x : Nat} (hf : ∀ x, x < N → f x < N) (hg : ∀ x, x < N → g (f x) = x) (hn : n ≤ N) (hx : x < n) : place g n N (place f n N x) = x := by
  obtain ⟨k, h, hk⟩ := first_of hf hg hn hx
  obtain ⟨h1, h2⟩ := h.back hf hg hn hx
  rw [place_at N x k h hk, place_at N _ k h1 hk, h2]

/-! ### The network -/
/-- The halves behind k rounds. -/
def net (R : Nat → Nat → Nat) (l r : Nat) : Nat → Nat × Nat
  | 0 => (l, r)
  | k + 1 => ((net R l r k).2, (net R l r k).1 ^^^ R k (net R l r k).2)
/-- The halves behind k rounds back. -/
def ten (R : Nat → Nat → Nat) (l r : Nat) : Nat → Nat × Nat
  | 0 => (l, r)
  | k + 1 => ((ten R l r k).2 ^^^ R (3 - k) (ten R l r k).1, (ten R l r k).1)
theorem xor_lt {w a b : Nat} (ha : a < 2 ^ w) (hb : b < 2 ^ w) : a ^^^ b < 2 ^ w := Nat.xor_lt_two_pow ha hb
theorem net_lt {R : Nat → Nat → Nat} {w l r : Nat} (hR : ∀ k h, R k h < 2 ^ w) (hl : l < 2 ^ w) (hr : r < 2 ^ w) : ∀ k, (net R l r k).1 < 2 ^ w ∧ (net R l r k).2 < 2 ^ w
  | 0 => ⟨hl, hr⟩
  | k + 1 => ⟨(net_lt hR hl hr k).2, xor_lt (net_lt hR hl hr k).1 (hR _ _)⟩
theorem ten_lt {R : Nat → Nat → Nat} {w l r : Nat} (hR : ∀ k h, R k h < 2 ^ w) (hl : l < 2 ^ w) (hr : r < 2 ^ w) : ∀ k, (ten R l r k).1 < 2 ^ w ∧ (ten R l r k).2 < 2 ^ w
  | 0 => ⟨hl, hr⟩
  | k + 1 => ⟨xor_lt (ten_lt hR hl hr k).2 (hR _ _), (ten_lt hR hl hr k).1⟩
theorem xor_twice (a b : Nat) : (a ^^^ b) ^^^ b = a := by rw [Nat.xor_assoc, Nat.xor_self, Nat.xor_zero]
theorem ten_net (R : Nat → Nat → Nat) (l r : Nat) : ∀ k, k ≤ 4 → ten R (net R l r 4).1 (net R l r 4).2 k = net R l r (4 - k)
  | 0, _ => rfl
  | k + 1, h => by
    rw [ten, ten_net R l r k (by omega), show 4 - k = (3 - k) + 1 from by omega, net, show 4 - (k + 1) = 3 - k from by omega]
    simp only [xor_twice]
theorem net_ten (R : Nat → Nat → Nat) (l r : Nat) : ∀ k, k ≤ 4 → net R (ten R l r 4).1 (ten R l r 4).2 k = ten R l r (4 - k)
  | 0, _ => rfl
  | k + 1, h => by
    rw [net, net_ten R l r k (by omega), show 4 - k = (3 - k) + 1 from by omega, ten, show 4 - (k + 1) = 3 - k from by omega]
    have : 3 - (3 - k) = k := by omega
    simp only [xor_twice, this]
/-- One step, one step back. -/
def stepN (R : Nat → Nat → Nat) (w x : Nat) : Nat := (net R (x / 2 ^ w) (x % 2 ^ w) 4).1 * 2 ^ w + (net R (x / 2 ^ w) (x % 2 ^ w) 4).2
def backN (R : Nat → Nat → Nat) (w x : Nat) : Nat := (ten R (x / 2 ^ w) (x % 2 ^ w) 4).1 * 2 ^ w + (ten R (x / 2 ^ w) (x % 2 ^ w) 4).2
theorem pow_two (w : Nat) : 2 ^ (2 * w) = 2 ^ w * 2 ^ w := by rw [Nat.two_mul, Nat.pow_add]
theorem halves_lt {w x : Nat} (h : x < 2 ^ (2 * w)) : x / 2 ^ w < 2 ^ w ∧ x % 2 ^ w < 2 ^ w := by
  have hp := Nat.two_pow_pos w
  exact ⟨(Nat.div_lt_iff_lt_mul hp).2 (by rw [← pow_two]; exact h), Nat.mod_lt _ hp⟩
theorem joined_lt {w a b : Nat} (ha : a < 2 ^ w) (hb : b < 2 ^ w) : a * 2 ^ w + b < 2 ^ (2 * w) := by
  rw [pow_two]
  have : (a + 1) * 2 ^ w ≤ 2 ^ w * 2 ^ w := Nat.mul_le_mul_right _ ha
  rw [Nat.add_mul, Nat.one_mul] at this
  omega
theorem joined_halves {w a b : Nat} (hb : b < 2 ^ w) : (a * 2 ^ w + b) / 2 ^ w = a ∧ (a * 2 ^ w + b) % 2 ^ w = b := by
  have hp := Nat.two_pow_pos w
  rw [Nat.mul_comm]
  exact ⟨by rw [Nat.mul_add_div hp, Nat.div_eq_of_lt hb, Nat.add_zero], by rw [Nat.mul_add_mod, Nat.mod_eq_of_lt hb]⟩
theorem stepN_lt {R : Nat → Nat → Nat} {w : Nat} (hR : ∀ k h, R k h < 2 ^ w) : ∀ x, x < 2 ^ (2 * w) → stepN R w x < 2 ^ (2 * w) := fun x hx => by
  obtain ⟨h1, h2⟩ := halves_lt hx
  exact joined_lt (net_lt hR h1 h2 4).1 (net_lt hR h1 h2 4).2
theorem backN_lt {R : Nat → Nat → Nat} {w : Nat} (hR : ∀ k h, R k h < 2 ^ w) : ∀ x, x < 2 ^ (2 * w) → backN R w x < 2 ^ (2 * w) := fun x hx => by
  obtain ⟨h1, h2⟩ := halves_lt hx
  exact joined_lt (ten_lt hR h1 h2 4).1 (ten_lt hR h1 h2 4).2
theorem parts (w x : Nat) : x / 2 ^ w * 2 ^ w + x % 2 ^ w = x := by rw [Nat.mul_comm]; exact Nat.div_add_mod _ _
theorem back_step {R : Nat → Nat → Nat} {w : Nat} (hR : ∀ k h, R k h < 2 ^ w) : ∀ x, x < 2 ^ (2 * w) → backN R w (stepN R w x) = x := fun x hx => by
  obtain ⟨h1, h2⟩ := halves_lt hx
  obtain ⟨e1, e2⟩ := joined_halves (a := (net R (x / 2 ^ w) (x % 2 ^ w) 4).1) (net_lt hR h1 h2 4).2
  unfold backN
  rw [show stepN R w x = (net R (x / 2 ^ w) (x % 2 ^ w) 4).1 * 2 ^ w + (net R (x / 2 ^ w) (x % 2 ^ w) 4).2 from rfl, e1, e2, ten_net R _ _ 4 (Nat.le_refl _)]
  exact parts w x
theorem step_back {R : Nat → Nat → Nat} {w : Nat} (hR : ∀ k h, R k h < 2 ^ w) : ∀ x, x < 2 ^ (2 * w) → stepN R w (backN R w x) = x := fun x hx => by
  obtain ⟨h1, h2⟩ := halves_lt hx
  obtain ⟨e1, e2⟩ := joined_halves (a := (ten R (x / 2 ^ w) (x % 2 ^ w) 4).1) (ten_lt hR h1 h2 4).2
  unfold stepN
  rw [show backN R w x = (ten R (x / 2 ^ w) (x % 2 ^ w) 4).1 * 2 ^ w + (ten R (x / 2 ^ w) (x % 2 ^ w) 4).2 from rfl, e1, e2, net_ten R _ _ 4 (Nat.le_refl _)]
  exact parts w x

/-! ### How many bits a half has -/
/-- The first w from 1 on with n at most 4 to the power w; k: how many are tried. -/
def bitsFrom (n : Nat) : Nat → Nat → Nat
  | 0, w => w
  | k + 1, w => if n ≤ 2 ^ (2 * w) then w else bitsFrom n k (w + 1)
def bitsN (n : Nat) : Nat := bitsFrom n 10 1
theorem bitsFrom_all {n : Nat} (h : n ≤ 1048576) : ∀ k w, 1 ≤ w → w + k = 11 → w ≤ 10 → w ≤ bitsFrom n k w ∧ bitsFrom n k w ≤ 10 ∧ n ≤ 2 ^ (2 * bitsFrom n k w)
  | 0, w, _, h2, h3 => by omega
  | k + 1, w, h1, h2, h3 => by
    rw [bitsFrom]
    by_cases hc : n ≤ 2 ^ (2 * w)
    · rw [if_pos hc]; exact ⟨Nat.le_refl _, h3, hc⟩
    · rw [if_neg hc]
      have hw : w ≤ 9 := by
        rcases Nat.lt_or_ge 9 w with hh | hh
        · obtain rfl : w = 10 := by omega
          exact absurd (show n ≤ 2 ^ (2 * 10) from h) hc
        · exact hh
      obtain ⟨a, b, c⟩ := bitsFrom_all h k (w + 1) (by omega) (by omega) (by omega)
      exact ⟨by omega, b, c⟩
theorem bitsN_all {n : Nat} (h : n ≤ 1048576) : 1 ≤ bitsN n ∧ bitsN n ≤ 10 ∧ n ≤ 2 ^ (2 * bitsN n) := bitsFrom_all h 10 1 (Nat.le_refl _) rfl (by omega)

end Go.Proofs.YtmngcnhnpfnloaaDoor
