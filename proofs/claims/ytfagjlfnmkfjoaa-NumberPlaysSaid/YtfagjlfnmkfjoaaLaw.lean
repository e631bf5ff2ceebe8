/- The plain law of NumberOnce: no id is fresh twice. No program in sight. -/
import Derived.Test.YtfagjlfnmkfjoaaWalks
namespace Go.Proofs.Ytfagjlfnmkfjoaa
open Go.RowKit

structure NInv (any : Bool) (g : Int) (c : Nat) (fr : List Int) : Prop where
  hg : 0 ≤ g ∧ g ≤ 1099511627776
  hc : c < 18446744073709551616
  hz : any = false → g = 0
  hf : any = false → fr = []
  hin : ∀ x, x ∈ fr → x ≤ g ∧ (x ≤ g - 64 ∨ c.testBit (g - x).toNat = true)

theorem NInv.start : NInv false 0 0 [] := ⟨by omega, by omega, fun _ => rfl, fun _ => rfl, fun x h => by cases h⟩

theorem NInv.not_mem {any : Bool} {g : Int} {c : Nat} {fr : List Int} (h : NInv any g c fr) {id : Int} (hf : freshB any g c id = true) : id ∉ fr := by
  intro hm
  obtain ⟨h1, h2⟩ := h.hin id hm
  cases any
  · have := h.hf rfl; subst this; cases hm
  · simp only [freshB, Bool.and_eq_true, Bool.not_eq_true'] at hf
    obtain ⟨⟨hf1, hf2⟩, hf3⟩ := hf
    rcases h2 with h2 | h2
    · simp [oldB] at hf2; omega
    · simp [hasB, bitB, hf1, hf2, h1, h2] at hf3

theorem two64 : (18446744073709551616 : Nat) = 2 ^ 64 := by decide

theorem bigN_lt (g : Int) (c : Nat) (id : Int) : bigN g c id < 18446744073709551616 := by
  unfold bigN
  rw [two64]
  exact Nat.or_lt_two_pow (Nat.mod_lt _ (by decide)) (by decide)

theorem oneN_lt {g : Int} {c : Nat} {id : Int} (hc : c < 18446744073709551616) (h : g - 64 < id) (h' : id ≤ g) : oneN g c id < 18446744073709551616 := by
  unfold oneN
  rw [two64] at hc ⊢
  exact Nat.or_lt_two_pow hc (Nat.pow_lt_pow_right (by omega) (by omega))

theorem NInv.next {any : Bool} {g : Int} {c : Nat} {fr : List Int} (h : NInv any g c fr) {id : Int} (hf : freshB any g c id = true) :
    NInv (nextAny any g c id) (nextG any g c id) (nextC any g c id) (fr ++ [id]) := by
  have hf' := hf
  simp only [freshB, Bool.and_eq_true, Bool.not_eq_true'] at hf
  obtain ⟨⟨hf1, hf2⟩, hf3⟩ := hf
  have hm : 0 ≤ id ∧ id ≤ 1099511627776 := by simpa [mayB] using hf1
  by_cases hn : any = true → g < id
  · have : nextAny any g c id = true ∧ nextG any g c id = id ∧ nextC any g c id = bigN g c id := by
      cases any <;> simp_all [nextAny, nextG, nextC]
    rw [this.1, this.2.1, this.2.2]
    refine ⟨hm, bigN_lt _ _ _, fun h => (by cases h), fun h => (by cases h), ?_⟩
    intro x hx
    rw [List.mem_append] at hx
    rcases hx with hx | hx
    · have hany : any = true := by
        cases any
        · have := h.hf rfl; subst this; cases hx
        · rfl
      have hgi := hn hany
      obtain ⟨h1, h2⟩ := h.hin x hx
      refine ⟨by omega, ?_⟩
      by_cases hfar : x ≤ id - 64
      · exact .inl hfar
      · refine .inr ?_
        rcases h2 with h2 | h2
        · omega
        · unfold bigN
          rw [Int.min_eq_left (by omega), Nat.testBit_or, two64, Nat.testBit_mod_two_pow, Nat.testBit_mul_two_pow]
          have e : (id - x).toNat - (id - g).toNat = (g - x).toNat := by omega
          rw [e, h2]
          simp
          omega
    · simp at hx
      subst hx
      exact ⟨Int.le_refl _, .inr (by simp [bigN])⟩
  · obtain ⟨rfl, hle⟩ : any = true ∧ id ≤ g := by simp at hn; omega
    have hfar : g - 64 < id := by simpa [oldB] using hf2
    have : nextAny true g c id = true ∧ nextG true g c id = g ∧ nextC true g c id = oneN g c id := by
      have : ¬ g < id := by omega
      simp [nextAny, nextG, nextC, hf', this]
    rw [this.1, this.2.1, this.2.2]
    refine ⟨h.hg, oneN_lt h.hc hfar hle, fun h => (by cases h), fun h => (by cases h), ?_⟩
    intro x hx
    rw [List.mem_append] at hx
    rcases hx with hx | hx
    · obtain ⟨h1, h2⟩ := h.hin x hx
      refine ⟨h1, ?_⟩
      rcases h2 with h2 | h2
      · exact .inl h2
      · exact .inr (by simp [oneN, Nat.testBit_or, h2])
    · simp at hx
      subst hx
      exact ⟨hle, .inr (by simp [oneN, Nat.testBit_or, Nat.testBit_two_pow_self])⟩

theorem next_not {any : Bool} {g : Int} {c : Nat} {id : Int} (hf : freshB any g c id = false) :
    nextAny any g c id = any ∧ nextG any g c id = g ∧ nextC any g c id = c := by simp [nextAny, nextG, nextC, hf]

end Go.Proofs.Ytfagjlfnmkfjoaa
