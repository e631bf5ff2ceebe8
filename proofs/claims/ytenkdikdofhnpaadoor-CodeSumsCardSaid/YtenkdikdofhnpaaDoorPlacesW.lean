/- Walks over code.Power, the reference's Power, Sized. -/
import Derived.Test.YtenkdikdofhnpaaDoorGen
import Derived.Test.YtenkdikdofhnpaaDoorRefPow
namespace Go.Proofs.YtenkdikdofhnpaaDoor
open Go.RowKit

theorem sized_any (n : Int) (w : World) : Calls Tryd.prog 28 #[.int .i64 n] w fun e w' => e = .returned (.bool (decide (1 ≤ n ∧ n ≤ 223))) ∧ w = w' := by
  rcases (show n < 1 ∨ (1 ≤ n ∧ n ≤ 223) ∨ 223 < n from by omega) with h | h | h
  · rw [decide_eq_false (by omega)]
    go_enter Tryd.func28, Tryd.ntmps28
    go_wp2
    go_ret
    exact ⟨rfl, rfl⟩
  · rw [decide_eq_true h]
    obtain ⟨h1, h2⟩ := h
    go_enter Tryd.func28, Tryd.ntmps28
    go_wp2
    go_ret
    exact ⟨rfl, rfl⟩
  · rw [decide_eq_false (by omega)]
    have hx : ¬ n ≤ 223 := by omega
    go_enter Tryd.func28, Tryd.ntmps28
    go_wp2
    go_ret
    exact ⟨rfl, rfl⟩
theorem rsized_any (n : Int) (w : World) : Calls Tryd.prog 12 #[.int .i64 n] w fun e w' => e = .returned (.bool (decide (33 ≤ n ∧ n ≤ 255))) ∧ w = w' := by
  rcases (show n < 33 ∨ (33 ≤ n ∧ n ≤ 255) ∨ 255 < n from by omega) with h | h | h
  · rw [decide_eq_false (by omega)]
    go_enter Tryd.func12, Tryd.ntmps12
    go_wp2
    go_ret
    exact ⟨rfl, rfl⟩
  · rw [decide_eq_true h]
    obtain ⟨h1, h2⟩ := h
    go_enter Tryd.func12, Tryd.ntmps12
    go_wp2
    go_ret
    exact ⟨rfl, rfl⟩
  · rw [decide_eq_false (by omega)]
    have hx : ¬ n ≤ 255 := by omega
    go_enter Tryd.func12, Tryd.ntmps12
    go_wp2
    go_ret
    exact ⟨rfl, rfl⟩

/-- The value that stands for a place. -/
def placeV (n p : Int) : UInt8 := if (33 ≤ n ∧ n ≤ 255) ∧ 0 ≤ p ∧ p < n then Gf.gexp (n - 1 - p).toNat else 0
theorem sub_wrap (n : Int) (h : -9223372036854775808 ≤ n ∧ n ≤ 9223372036854775807) : (decide (1 ≤ wrap64 (n - 32) ∧ wrap64 (n - 32) ≤ 223)) = decide (33 ≤ n ∧ n ≤ 255) := by
  unfold wrap64
  apply decide_eq_decide.2
  omega

end Go.Proofs.YtenkdikdofhnpaaDoor
