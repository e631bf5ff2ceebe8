/- Walks over code.Power, the reference's Power, Sized. -/
import Derived.Test.YtenkdikdofhnpaaGen
import Derived.Test.YtenkdikdofhnpaaRefPow
namespace Go.Proofs.Ytenkdikdofhnpaa
open Go.RowKit

theorem sized_any (n : Int) (w : World) : Calls Try.prog 11 #[.int .i64 n] w fun e w' => e = .returned (.bool (decide (1 ≤ n ∧ n ≤ 223))) ∧ w = w' := by
  rcases (show n < 1 ∨ (1 ≤ n ∧ n ≤ 223) ∨ 223 < n from by omega) with h | h | h
  · rw [decide_eq_false (by omega)]
    go_enter Try.func11, Try.ntmps11
    go_wp2
    go_ret
    exact ⟨rfl, rfl⟩
  · rw [decide_eq_true h]
    obtain ⟨h1, h2⟩ := h
    go_enter Try.func11, Try.ntmps11
    go_wp2
    go_ret
    exact ⟨rfl, rfl⟩
  · rw [decide_eq_false (by omega)]
    have hx : ¬ n ≤ 223 := by omega
    go_enter Try.func11, Try.ntmps11
    go_wp2
    go_ret
    exact ⟨rfl, rfl⟩
theorem rsized_any (n : Int) (w : World) : Calls Try.prog 5 #[.int .i64 n] w fun e w' => e = .returned (.bool (decide (33 ≤ n ∧ n ≤ 255))) ∧ w = w' := by
  rcases (show n < 33 ∨ (33 ≤ n ∧ n ≤ 255) ∨ 255 < n from by omega) with h | h | h
  · rw [decide_eq_false (by omega)]
    go_enter Try.func5, Try.ntmps5
    go_wp2
    go_ret
    exact ⟨rfl, rfl⟩
  · rw [decide_eq_true h]
    obtain ⟨h1, h2⟩ := h
    go_enter Try.func5, Try.ntmps5
    go_wp2
    go_ret
    exact ⟨rfl, rfl⟩
  · rw [decide_eq_false (by omega)]
    have hx : ¬ n ≤ 255 := by omega
    go_enter Try.func5, Try.ntmps5
    go_wp2
    go_ret
    exact ⟨rfl, rfl⟩

/-- The value that stands for a place. -/
def placeV (n p : Int) : UInt8 := if (33 ≤ n ∧ n ≤ 255) ∧ 0 ≤ p ∧ p < n then Gf.gexp (n - 1 - p).toNat else 0
theorem sub_wrap (n : Int) (h : -9223372036854775808 ≤ n ∧ n ≤ 9223372036854775807) : (decide (1 ≤ wrap64 (n - 32) ∧ wrap64 (n - 32) ≤ 223)) = decide (33 ≤ n ∧ n ≤ 255) := by
  unfold wrap64
  apply decide_eq_decide.2
  omega

set_option maxHeartbeats 1000000 in
theorem cpow_any (n p : Int) (w : World) (hn : -9223372036854775808 ≤ n ∧ n ≤ 9223372036854775807) : Calls Try.prog 7 #[.int .i64 n, .int .i64 p] w fun e w' => e = .returned (.int .u8 ((placeV n p).toNat : Int)) ∧ w = w' := by
  have hw := sub_wrap n hn
  rcases (show ¬ (33 ≤ n ∧ n ≤ 255) ∨ ((33 ≤ n ∧ n ≤ 255) ∧ p < 0) ∨ ((33 ≤ n ∧ n ≤ 255) ∧ 0 ≤ p ∧ n ≤ p) ∨ ((33 ≤ n ∧ n ≤ 255) ∧ 0 ≤ p ∧ p < n) from by omega) with h | ⟨h, h1⟩ | ⟨h, h1, h2⟩ | ⟨h, h1, h2⟩
  · rw [show placeV n p = 0 from if_neg (fun q => h q.1)]
    rw [decide_eq_false h] at hw
    replace hw := Lib.hid hw
    clear h
    go_enter Try.func7, Try.ntmps7
    go_wp2_with fail
    refine (sized_any _ _).mono ?_
    rintro e w1 ⟨rfl, rfl⟩
    rw [hw.out]
    go_wp2_with fail
    go_ret
    exact ⟨rfl, rfl⟩
  · rw [show placeV n p = 0 from if_neg (fun q => by omega)]
    have hw2 := IntWalk.i64_in (n - 32) (by omega)
    have hd : decide (1 ≤ n - 32 ∧ n - 32 ≤ 223) = true := decide_eq_true (by omega)
    clear hw
    go_enter Try.func7, Try.ntmps7
    go_wp2_with fail
    refine (sized_any _ _).mono ?_
    rintro e w1 ⟨rfl, rfl⟩
    rw [hd]
    go_wp2_with fail
    go_ret
    exact ⟨rfl, rfl⟩
  · rw [show placeV n p = 0 from if_neg (fun q => by omega)]
    have hw2 := IntWalk.i64_in (n - 32) (by omega)
    have hd : decide (1 ≤ n - 32 ∧ n - 32 ≤ 223) = true := decide_eq_true (by omega)
    clear hw
    go_enter Try.func7, Try.ntmps7
    go_wp2_with fail
    refine (sized_any _ _).mono ?_
    rintro e w1 ⟨rfl, rfl⟩
    rw [hd]
    go_wp2_with fail
    go_ret
    exact ⟨rfl, rfl⟩
  · rw [show placeV n p = Gf.gexp (n - 1 - p).toNat from if_pos ⟨h, h1, h2⟩, ← ex_of_lt (n - 1 - p) (by omega)]
    have hd : decide (1 ≤ n - 32 ∧ n - 32 ≤ 223) = true := decide_eq_true (by omega)
    clear hw
    obtain ⟨h3, h4⟩ := h
    go_enter Try.func7, Try.ntmps7
    go_wp2_with fail
    refine (sized_any _ _).mono ?_
    rintro e w1 ⟨rfl, rfl⟩
    rw [hd]
    go_wp2_with fail
    refine (exp_any _ _).mono ?_
    rintro e w1 ⟨rfl, rfl⟩
    go_wp2_with fail
    go_ret
    exact ⟨rfl, rfl⟩

set_option maxHeartbeats 400000 in
theorem rpow_any (n p : Int) (w : World) (h : 33 ≤ n ∧ n ≤ 255) (h1 : 0 ≤ p) (h2 : p < n) : Calls Try.prog 6 #[.int .i64 n, .int .i64 p] w fun e w' => e = .returned (.int .u8 ((placeV n p).toNat : Int)) ∧ w = w' := by
  rw [show placeV n p = Gf.gexp (n - 1 - p).toNat from if_pos ⟨h, h1, h2⟩, ← gpow_two]
  have hc := power_any 2 (n - 1 - p).toNat (by omega) w
  rw [Int.toNat_of_nonneg (by omega)] at hc
  replace hc := Lib.hid hc
  go_enter Try.func6, Try.ntmps6
  go_wp2_with fail
  refine hc.out.mono ?_
  rintro e w1 ⟨rfl, rfl⟩
  go_wp2_with fail
  go_ret
  exact ⟨rfl, rfl⟩

end Go.Proofs.Ytenkdikdofhnpaa
