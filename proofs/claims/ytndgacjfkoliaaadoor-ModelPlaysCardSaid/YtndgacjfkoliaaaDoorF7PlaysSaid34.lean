/- A row of plain structs: its cells side by side. Of whatever program. -/
import Derived.Test.YtndgacjfkoliaaaDoorF2PlaysSaid34
import Derived.Laws.AppendOwn
namespace Go.Proofs.YtndgacjfkoliaaaDoor
open Go.RowKit

theorem flatMap_get {α : Type} {enc : α → List Value} {size : Nat} : ∀ (xs : List α), (∀ x ∈ xs, (enc x).length = size) → ∀ (i r : Nat) (hi : i < xs.length), r < size → (xs.flatMap enc)[i * size + r]? = (enc xs[i])[r]?
  | [], _, i, r, hi, _ => absurd hi (Nat.not_lt_zero _)
  | x :: xs, h, i, r, hi, hr => by
    have hx := h x (List.mem_cons_self ..)
    rw [List.flatMap_cons]
    cases i with
    | zero => rw [Nat.zero_mul, Nat.zero_add, List.getElem?_append_left (by omega)]; rfl
    | succ i =>
      rw [Nat.succ_mul, List.getElem?_append_right (by omega), hx, show i * size + size + r - size = i * size + r by omega]
      exact flatMap_get xs (fun y hy => h y (List.mem_cons_of_mem _ hy)) i r (by simpa using hi) hr
theorem flatMap_len {α : Type} {enc : α → List Value} {size : Nat} : ∀ (xs : List α), (∀ x ∈ xs, (enc x).length = size) → (xs.flatMap enc).length = xs.length * size
  | [], _ => by simp
  | x :: xs, h => by
    rw [List.flatMap_cons, List.length_append, flatMap_len xs (fun y hy => h y (List.mem_cons_of_mem _ hy)), h x (List.mem_cons_self ..), List.length_cons, Nat.succ_mul]
    omega
theorem flat_range {α : Type} {enc : α → List Value} {size : Nat} {w : World} {b o : Nat} {xs : List α} (hs : 0 < size) (hl : ∀ x ∈ xs, (enc x).length = size) (h : ∀ k (h : k < xs.length), w.rangeAt b (o + k * size) (enc xs[k])) : w.rangeAt b o (xs.flatMap enc) := fun j v hv => by
  have hj : j < xs.length * size := by rw [← flatMap_len xs hl]; exact (List.getElem?_eq_some_iff.1 hv).1
  have hi : j / size < xs.length := Nat.div_lt_of_lt_mul (by rw [Nat.mul_comm]; exact hj)
  have hr : j % size < size := Nat.mod_lt _ hs
  have hd : j / size * size + j % size = j := by rw [Nat.mul_comm]; exact Nat.div_add_mod j size
  have h1 := flatMap_get xs hl (j / size) (j % size) hi hr
  rw [hd, hv] at h1
  have := h (j / size) hi (j % size) v h1.symm
  rw [Nat.add_assoc, hd] at this
  exact this
/-- A row of the call's own. -/
theorem rowsOf_own {α : Type} {enc : α → List Value} {R : World → (Nat → Prop) → α → List Value → Prop} {e : TypeId} {size base : Nat} {w : World} {v : Value} {xs : List α} (hR : ∀ x ∈ xs, R w (fun _ => False) x (enc x)) (h : w.ownsRow base e size v xs.length (xs.flatMap enc)) : RowsOf R e size base w (fun _ => False) v xs := by
  refine ⟨⟨xs.map enc, by simp, by rw [← List.flatMap_def]; exact h, fun i x cs hx hc => ?_⟩, fun k _ hf => hf, fun k hk => hk.elim⟩
  rw [List.getElem?_map, hx] at hc
  cases hc
  exact hR x (List.mem_of_getElem? hx)
end Go.Proofs.YtndgacjfkoliaaaDoor
