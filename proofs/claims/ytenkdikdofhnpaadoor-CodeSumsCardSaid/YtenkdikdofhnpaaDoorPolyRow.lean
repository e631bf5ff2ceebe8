/- Plain laws: the product row by row; the product of one more root. -/
import Derived.Test.YtenkdikdofhnpaaDoorPolyL
namespace Go.Proofs.YtenkdikdofhnpaaDoor
open Gf (add_zero zero_add add_self add_comm add_assoc)

/-- What has come of the product behind i rows. -/
def rowsTo (p q : List UInt8) (i j : Nat) : UInt8 := xsum i fun t => if t ≤ j then Gf.mul (cf p t) (cf q (j - t)) else 0
/-- .. and k columns of the next row. -/
def rowAt (p q : List UInt8) (i k j : Nat) : UInt8 := if i ≤ j ∧ j < i + k then Gf.add (rowsTo p q i j) (Gf.mul (cf p i) (cf q (j - i))) else rowsTo p q i j
theorem rowAt_zero (p q : List UInt8) (i j : Nat) : rowAt p q i 0 j = rowsTo p q i j := by
  unfold rowAt; rw [if_neg (by omega)]
theorem rowAt_full (p q : List UInt8) (i j : Nat) : rowAt p q i q.length j = rowsTo p q (i + 1) j := by
  unfold rowAt
  show _ = Gf.add (rowsTo p q i j) (if i ≤ j then Gf.mul (cf p i) (cf q (j - i)) else 0)
  by_cases h : i ≤ j
  · rw [if_pos h]
    by_cases h2 : j < i + q.length
    · rw [if_pos ⟨h, h2⟩]
    · rw [if_neg (by omega), cf_ge (p := q) (by omega), Gf.mul_zero, add_zero]
  · rw [if_neg h, if_neg (by omega), add_zero]
theorem rowsTo_all (p q : List UInt8) (j : Nat) : rowsTo p q p.length j = conv p q j := by
  unfold rowsTo conv
  have h1 : xsum (max p.length (j + 1)) (fun t => if t ≤ j then Gf.mul (cf p t) (cf q (j - t)) else 0) = xsum p.length fun t => if t ≤ j then Gf.mul (cf p t) (cf q (j - t)) else 0 :=
    xsum_more (by omega) fun i hi => by rw [cf_ge hi, Gf.mul_zero_left]; split <;> rfl
  have h2 : xsum (max p.length (j + 1)) (fun t => if t ≤ j then Gf.mul (cf p t) (cf q (j - t)) else 0) = xsum (j + 1) fun t => if t ≤ j then Gf.mul (cf p t) (cf q (j - t)) else 0 :=
    xsum_more (by omega) fun i hi => by rw [if_neg (by omega)]
  rw [← h1, h2]
  exact xsum_congr fun i hi => by rw [if_pos (by omega)]
theorem tab_zero (n : Nat) : tab n (fun _ => 0) = List.replicate n 0 := by
  apply List.ext_getElem (by simp [tab])
  intro i h1 h2
  simp [tab]
/-- One store. -/
theorem tab_row (p q : List UInt8) (n i k : Nat) : (tab n (rowAt p q i k)).set (i + k) (Gf.add (rowsTo p q i (i + k)) (Gf.mul (cf p i) (cf q k))) = tab n (rowAt p q i (k + 1)) := by
  apply List.ext_getElem (by simp [tab])
  intro j h1 h2
  have hj : j < n := by simpa [tab] using h2
  simp only [List.getElem_set, tab, List.getElem_map, List.getElem_range]
  by_cases e : i + k = j
  · subst e
    rw [if_pos rfl]
    unfold rowAt
    rw [if_pos (by omega), Nat.add_sub_cancel_left]
  · rw [if_neg e]
    unfold rowAt
    by_cases h : i ≤ j ∧ j < i + k
    · rw [if_pos h, if_pos (by omega)]
    · rw [if_neg h, if_neg (by omega)]
theorem cf_tab_row (p q : List UInt8) (n i k : Nat) (h : i + k < n) : cf (tab n (rowAt p q i k)) (i + k) = rowsTo p q i (i + k) := by
  rw [cf_tab, if_pos h]
  unfold rowAt
  rw [if_neg (by omega)]

end Go.Proofs.YtenkdikdofhnpaaDoor
