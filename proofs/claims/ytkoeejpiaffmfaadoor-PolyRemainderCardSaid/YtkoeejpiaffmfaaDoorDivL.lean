/- Plain laws of division. -/
import Derived.Test.YtkoeejpiaffmfaaDoorPolyL
namespace Go.Proofs.YtkoeejpiaffmfaaDoor
open Gf (add_zero zero_add add_self add_comm add_assoc)
attribute [local irreducible] Gf.mul Gf.add Gf.inv

theorem xsum_one (n i : Nat) (g : Nat → UInt8) : xsum n (fun t => if t = i then g t else 0) = if i < n then g i else 0 := by
  induction n with
  | zero => rfl
  | succ n ih =>
    rw [xsum, ih]
    by_cases h : n = i
    · subst h
      rw [if_neg (Nat.lt_irrefl _), if_pos rfl, if_pos (Nat.lt_succ_self _), zero_add]
    · rw [if_neg h, add_zero]
      by_cases h2 : i < n
      · rw [if_pos h2, if_pos (by omega)]
      · rw [if_neg h2, if_neg (by omega)]
theorem cf_set (A : List UInt8) (i : Nat) (c : UInt8) (hi : i < A.length) (t : Nat) : cf (A.set i c) t = if t = i then c else cf A t := by
  unfold cf
  rw [List.getD_eq_getElem?_getD, List.getElem?_set]
  by_cases h : t = i
  · subst h; simp [hi]
  · rw [if_neg (fun e => h e.symm), if_neg h]; rfl
theorem conv_set {A q : List UInt8} {i : Nat} (c : UInt8) (hi : i < A.length) (h0 : cf A i = 0) (j : Nat) :
    conv (A.set i c) q j = Gf.add (conv A q j) (if i ≤ j then Gf.mul c (cf q (j - i)) else 0) := by
  have h1 : conv (A.set i c) q j = xsum (j + 1) fun t => Gf.add (Gf.mul (cf A t) (cf q (j - t))) (if t = i then Gf.mul c (cf q (j - t)) else 0) := by
    refine xsum_congr fun t _ => ?_
    rw [cf_set A i c hi]
    by_cases h : t = i
    · subst h; rw [if_pos rfl, if_pos rfl, h0, Gf.mul_zero_left, zero_add]
    · rw [if_neg h, if_neg h, add_zero]
  rw [h1, xsum_add, xsum_one (j + 1) i fun t => Gf.mul c (cf q (j - t))]
  show Gf.add (conv A q j) _ = _
  by_cases h : i ≤ j
  · rw [if_pos h, if_pos (by omega)]
  · rw [if_neg h, if_neg (by omega)]

structure DInv (p q A R : List UInt8) (t : Nat) : Prop where
  sum : ∀ j, cf p j = Gf.add (cf R j) (conv A q j)
  top : ∀ j, t + q.length ≤ j + 1 → cf R j = 0
  low : ∀ j, j < t → cf A j = 0

/-- The rest behind k columns. -/
def restAt (R q : List UInt8) (c : UInt8) (i k j : Nat) : UInt8 := if i ≤ j ∧ j < i + k then Gf.add (cf R j) (Gf.mul (cf q (j - i)) c) else cf R j
theorem restAt_step (R q : List UInt8) (c : UInt8) (m i k : Nat) : (tab m (restAt R q c i k)).set (i + k) (Gf.add (cf R (i + k)) (Gf.mul (cf q k) c)) = tab m (restAt R q c i (k + 1)) := by
  apply List.ext_getElem (by simp [tab])
  intro j h1 h2
  simp only [List.getElem_set, tab, List.getElem_map, List.getElem_range]
  by_cases e : i + k = j
  · subst e
    rw [if_pos rfl]
    unfold restAt
    rw [if_pos (by omega), Nat.add_sub_cancel_left]
  · rw [if_neg e]
    unfold restAt
    by_cases h : i ≤ j ∧ j < i + k
    · rw [if_pos h, if_pos (by omega)]
    · rw [if_neg h, if_neg (by omega)]
theorem cf_restAt (R q : List UInt8) (c : UInt8) (m i k : Nat) (h : i + k < m) : cf (tab m (restAt R q c i k)) (i + k) = cf R (i + k) := by
  rw [cf_tab, if_pos h]
  unfold restAt
  rw [if_neg (by omega)]
theorem restAt_zero (R q : List UInt8) (c : UInt8) (i : Nat) : tab R.length (restAt R q c i 0) = R := by
  rw [show restAt R q c i 0 = cf R from funext fun j => by unfold restAt; rw [if_neg (by omega)]]
  exact tab_cf R

theorem DInv.step {p q A R : List UInt8} {i m d : Nat} (h : DInv p q A R (i + 1)) (hd : q.length = d + 1) (hq : cf q d ≠ 0) (hi : i < A.length) (hm : R.length = m) (hid : i + d < m) :
    DInv p q (A.set i (Gf.mul (cf R (i + d)) (Gf.inv (cf q d)))) (tab m (restAt R q (Gf.mul (cf R (i + d)) (Gf.inv (cf q d))) i q.length)) i := by
  obtain ⟨c, hc⟩ : ∃ c, c = Gf.mul (cf R (i + d)) (Gf.inv (cf q d)) := ⟨_, rfl⟩
  rw [← hc]
  have h0 := h.low i (by omega)
  have hR : ∀ j, cf (tab m (restAt R q c i q.length)) j = Gf.add (cf R j) (if i ≤ j then Gf.mul c (cf q (j - i)) else 0) := by
    intro j
    rw [cf_tab]
    by_cases hj : j < m
    · rw [if_pos hj]
      unfold restAt
      by_cases h1 : i ≤ j
      · rw [if_pos h1]
        by_cases h2 : j < i + q.length
        · rw [if_pos ⟨h1, h2⟩, Gf.mul_comm]
        · rw [if_neg (by omega), cf_ge (p := q) (by omega), Gf.mul_zero, add_zero]
      · rw [if_neg h1, if_neg (by omega), add_zero]
    · rw [if_neg hj, cf_ge (by omega), zero_add]
      by_cases h1 : i ≤ j
      · rw [if_pos h1, cf_ge (p := q) (by omega), Gf.mul_zero]
      · rw [if_neg h1]
  refine ⟨fun j => ?_, fun j hj => ?_, fun j hj => ?_⟩
  · rw [h.sum j, hR, conv_set c hi h0 j, add_swap, add_self, add_zero]
  · rw [hR]
    by_cases e : j = i + d
    · subst e
      rw [if_pos (by omega), Nat.add_sub_cancel_left, hc, ← Gf.mul_assoc, Gf.mul_comm (Gf.inv _), Gf.mul_inv hq, Gf.mul_one, add_self]
    · rw [h.top j (by omega), zero_add]
      split
      · rw [cf_ge (p := q) (by omega), Gf.mul_zero]
      · rfl
  · rw [cf_set A i c hi, if_neg (by omega)]
    exact h.low j (by omega)
theorem DInv.start {p q : List UInt8} {n : Nat} (hn : tlen p + 1 ≤ n + q.length) : DInv p q (tab n fun _ => 0) (trim p) n := by
  have hz : ∀ j, cf (tab n fun _ => 0) j = 0 := fun j => by rw [cf_tab]; split <;> rfl
  refine ⟨fun j => ?_, fun j hj => ?_, fun j _ => hz j⟩
  · rw [cf_trim, show conv (tab n fun _ => 0) q j = 0 from xsum_zero' fun t _ => by rw [hz, Gf.mul_zero_left], add_zero]
  · rw [cf_trim]; exact tlen_zero p j (by omega)
theorem DInv.rest {p q A R : List UInt8} (h : DInv p q A R 0) (hd : 0 < q.length) : tlen R < q.length := by
  rcases Nat.lt_or_ge (tlen R) q.length with h' | h'
  · exact h'
  · exact absurd (h.top (tlen R - 1) (by omega)) (tlen_ne R (by omega))

end Go.Proofs.YtkoeejpiaffmfaaDoor
