/- Plain laws for CodeApart: the list of the places. -/
import Derived.Test.YtenkdikdofhnpaaDoorEncode
namespace Go.Proofs.YtenkdikdofhnpaaDoor

theorem diffTo_more (xs ys : List UInt8) (k : Nat) : ∀ m, ∃ r, diffTo xs ys (k + m) = diffTo xs ys k ++ r
  | 0 => ⟨[], by simp⟩
  | m + 1 => by
    obtain ⟨r, hr⟩ := diffTo_more xs ys k m
    by_cases h : cf xs (k + m) = cf ys (k + m)
    · exact ⟨r, by rw [← Nat.add_assoc, diffTo_same h, hr]⟩
    · exact ⟨r ++ [((k + m : Nat) : Int)], by rw [← Nat.add_assoc, diffTo_other h, hr, List.append_assoc]⟩
theorem diffTo_at {xs ys : List UInt8} {k : Nat} (hk : k < xs.length) (h : cf xs k ≠ cf ys k) : (diffTo xs ys k).length < (diffI xs ys).length ∧ (diffI xs ys).getD (diffTo xs ys k).length 0 = (k : Int) := by
  obtain ⟨r, hr⟩ := diffTo_more xs ys (k + 1) (xs.length - (k + 1))
  rw [show k + 1 + (xs.length - (k + 1)) = xs.length from by omega, diffTo_other h] at hr
  have e : diffI xs ys = diffTo xs ys k ++ ([(k : Int)] ++ r) := by rw [← List.append_assoc]; exact hr
  rw [e]
  constructor
  · simp
  · simp [List.getD_eq_getElem?_getD]
theorem diffTo_count_other {xs ys : List UInt8} {k : Nat} (h : cf xs k ≠ cf ys k) : (diffTo xs ys (k + 1)).length = (diffTo xs ys k).length + 1 := by
  rw [diffTo_other h]; simp
/-- Two code words of data that aren't the same: more than 32 places. -/
theorem codeW_apart (xs ys : List UInt8) (hz : ∀ (bs : List UInt8) j, j < 32 → hv (Gf.gexp j) (codeW bs) = 0) (hl : xs.length = ys.length) (hn : xs.length ≤ 223) (h : xs ≠ ys) : 32 < (diffI (codeW xs) (codeW ys)).length := by
  apply Nat.lt_of_not_le
  intro hle
  have e : codeW xs = codeW ys := by
    refine apart (codeW xs) (codeW ys) (by rw [codeW_length, codeW_length, hl]) (by rw [codeW_length]; omega) (hz xs) (hz ys) ?_
    have : (diffI (codeW xs) (codeW ys)).length = (diffs (codeW xs) (codeW ys)).length := by unfold diffI; rw [List.length_map]
    omega
  apply h
  have e2 := congrArg (List.take xs.length) e
  unfold codeW at e2
  rw [List.take_left, hl, List.take_left] at e2
  exact e2
theorem codeW_ne {xs ys : List UInt8} (hl : xs.length = ys.length) (h : xs ≠ ys) : codeW xs ≠ codeW ys := by
  intro e
  apply h
  have e2 := congrArg (List.take xs.length) e
  unfold codeW at e2
  rw [List.take_left, hl, List.take_left] at e2
  exact e2

end Go.Proofs.YtenkdikdofhnpaaDoor
