/- Blocks that are masked twice are as they were (no program in sight); what Num makes of an error of stream.Masks. -/
import Derived.Test.YtkenakcipdkdbaaDoorMasks
namespace Go.Proofs.YtkenakcipdkdbaaDoor
open Go.RowKit

theorem sB_all {n : Int} {ps : List (List UInt8)} (h : sB n ps ps.length = 0) (i : Nat) (hi : i ≤ ps.length) : sB n ps i = 0 := by
  by_cases hz : sB n ps i = 0
  · exact hz
  · have := sB_stay hz (ps.length - i)
    rw [show i + (ps.length - i) = ps.length from by omega, h] at this
    exact this.symm
theorem mBad_zero {n : Int} {bs : List UInt8} (h : mBad n bs = 0) : bs.length = 8 ∧ cntd n = true := by
  unfold mBad at h
  by_cases h8 : bs.length = 8
  · rw [if_pos h8] at h
    refine ⟨h8, ?_⟩
    unfold bBad at h
    cases hc : cntd n
    · rw [hc] at h; simp at h
    · rfl
  · rw [if_neg h8] at h; exact absurd h (by decide)
theorem sB_el {n : Int} {ps : List (List UInt8)} (h : sB n ps ps.length = 0) (i : Nat) (hi : i < ps.length) : (ps.getD i []).length = 8 ∧ cntd (atI n i) = true := by
  have h1 := sB_all h (i + 1) hi
  rw [sB_succ (sB_all h i (by omega))] at h1
  exact mBad_zero h1
theorem sW_at {key : List UInt8} {n : Int} {ps : List (List UInt8)} : ∀ k, sB n ps k = 0 → ∀ i, i < k → (sW key n ps k).getD i [] = mX key (atI n i) (ps.getD i [])
  | 0, _, i, hi => absurd hi (Nat.not_lt_zero i)
  | k + 1, h, i, hi => by
    have hk := sB_back h
    have hl := sW_length (key := key) k hk
    rw [sW_succ hk]
    rcases Nat.lt_or_ge i k with hlt | hge
    · rw [List.getD_eq_getElem?_getD, List.getElem?_append_left (by omega), ← List.getD_eq_getElem?_getD]
      exact sW_at k hk i hlt
    · obtain rfl : i = k := by omega
      rw [List.getD_eq_getElem?_getD, List.getElem?_append_right (by omega), hl]
      simp
theorem twice {key : List UInt8} {n : Int} {ps : List (List UInt8)} (h : sB n ps ps.length = 0) : sB n (sW key n ps ps.length) ps.length = 0 ∧ sW key n (sW key n ps ps.length) ps.length = ps := by
  have hk : ∀ k, k ≤ ps.length → sB n (sW key n ps ps.length) k = 0 ∧ sW key n (sW key n ps ps.length) k = ps.take k := by
    intro k
    induction k with
    | zero => intro _; exact ⟨rfl, by simp [sW]⟩
    | succ k ih =>
      intro hk
      obtain ⟨h1, h2⟩ := ih (by omega)
      obtain ⟨h8, hc⟩ := sB_el h k (by omega)
      have hat := sW_at (key := key) ps.length h k (by omega)
      have hmx : mX key (atI n k) (ps.getD k []) = maskB (blockB key (atI n k)) (ps.getD k []) := by unfold mX; rw [if_pos ⟨h8, hc⟩]
      rw [hmx] at hat
      refine ⟨?_, ?_⟩
      · rw [sB_succ h1, hat]
        unfold mBad bBad
        rw [if_pos (maskB_length _ _), if_pos hc]
      · rw [sW_succ h1, h2, hat]
        unfold mX
        rw [if_pos ⟨maskB_length _ _, hc⟩, maskB_twice _ _ h8, List.take_add_one, List.getD_eq_getElem?_getD, List.getElem?_eq_getElem (by omega)]
        rfl
  have := hk ps.length (Nat.le_refl _)
  rw [List.take_length] at this
  exact this
theorem sB_one {n : Int} {ps : List (List UInt8)} : ∀ k, sB n ps k = 0 ∨ sB n ps k = 1 ∨ sB n ps k = 8
  | 0 => .inl rfl
  | k + 1 => by
    rw [sB]
    by_cases h : sB n ps k = 0
    · rw [if_pos h]
      unfold mBad bBad
      split
      · split
        · exact .inl rfl
        · exact .inr (.inl rfl)
      · exact .inr (.inr rfl)
    · rw [if_neg h]; exact sB_one k
theorem eOf_num (z : Nat → Addr) (n : Int) (ps : List (List UInt8)) (k : Nat) (w : World) (hW : StrW z w) : Calls Tryd.prog 10 #[eOf (z 0) (z 7) (sB n ps k)] w fun e w' => e = .returned (.int .i64 (sB n ps k)) ∧ Below w.heap.size w w' := by
  rcases sB_one (n := n) (ps := ps) k with h | h | h
  · rw [h]
    refine (num_nil w).mono ?_
    rintro e w' ⟨rfl, rfl⟩
    exact ⟨rfl, Below.refl _ _⟩
  · rw [h]
    exact num_err 0 (by omega) z w hW.er
  · rw [h]
    exact num_err 7 (by omega) z w hW.er

end Go.Proofs.YtkenakcipdkdbaaDoor
