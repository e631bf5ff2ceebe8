/- baileenum.Figures: the figures of a number. -/
import Derived.Test.YtebfjpagecakjaaDoorParams
import Derived.Lib.ItoaNum
namespace Go.Proofs.YtebfjpagecakjaaDoor
open Go.RowKit

theorem decDigits_more {x : Nat} (h : ¬ x < 10) : Lib.decDigits x = Lib.decDigits (x / 10) ++ [UInt8.ofNat (48 + x % 10)] := by
  rw [Lib.decDigits, dif_neg h]
theorem itoa_nat (x : Nat) : Lib.itoa (x : Int) = Lib.decDigits x := by
  unfold Lib.itoa
  rw [if_neg (by omega)]
  simp
theorem itoa_neg (x : Nat) (h : x ≠ 0) : Lib.itoa (-(x : Int)) = 45 :: Lib.decDigits x := by
  unfold Lib.itoa
  rw [if_pos (by omega)]
  simp
theorem nD_le : ∀ (k u : Nat), u < 10 ^ (k + 1) → Lib.nDigits u ≤ k + 1
  | 0, u, h => by rw [Lib.nDigits_small (by simpa using h)]; omega
  | k + 1, u, h => by
    by_cases hs : u < 10
    · rw [Lib.nDigits_small hs]; omega
    · rw [Lib.nDigits_big hs]
      have := nD_le k (u / 10) (by rw [Nat.pow_succ] at h; omega)
      omega
theorem itoa_len (n : Int) (h1 : -9223372036854775808 ≤ n) (h2 : n ≤ 9223372036854775807) : (Lib.itoa n).length ≤ 21 := by
  unfold Lib.itoa
  split
  · rw [List.length_cons, Lib.decDigits_length]
    have := nD_le 19 n.natAbs (by have : (10 : Nat) ^ (19 + 1) = 100000000000000000000 := by decide
                                  omega)
    omega
  · rw [Lib.decDigits_length]
    have := nD_le 19 n.toNat (by have : (10 : Nat) ^ (19 + 1) = 100000000000000000000 := by decide
                                 omega)
    omega
theorem bytes_app (a b : List UInt8) : (⟨a.toArray⟩ : ByteArray) ++ ⟨b.toArray⟩ = ⟨(a ++ b).toArray⟩ := by
  apply ByteArray.ext
  simp

set_option maxRecDepth 10000 in
set_option maxHeartbeats 4000000 in
theorem figures_pos (x : Nat) (hx : x ≤ 9223372036854775807) (w : World) (rec : ¬ x < 10 → Calls Tryd.prog 28 #[.int .i64 ((x / 10 : Nat) : Int)] w fun e w' => e = .returned (.string ⟨(Lib.itoa ((x / 10 : Nat) : Int)).toArray⟩) ∧ w = w') :
    Calls Tryd.prog 28 #[.int .i64 (x : Int)] w fun e w' => e = .returned (.string ⟨(Lib.itoa (x : Int)).toArray⟩) ∧ w = w' := by
  by_cases hs : x < 10
  · have e := Lib.decDigits_one hs
    rw [itoa_nat, e]
    clear rec e
    rcases (show x = 0 ∨ x = 1 ∨ x = 2 ∨ x = 3 ∨ x = 4 ∨ x = 5 ∨ x = 6 ∨ x = 7 ∨ x = 8 ∨ x = 9 from by omega) with rfl | rfl | rfl | rfl | rfl | rfl | rfl | rfl | rfl | rfl
    all_goals
      clear hx hs
      go_enter Tryd.func28, Tryd.ntmps28
      go_wp2_with fail
      go_ret
      exact ⟨by kernel_rfl, rfl⟩
  · have hm : ((x : Int).tmod 10) = ((x % 10 : Nat) : Int) := by rw [Int.tmod_eq_emod_of_nonneg (by omega)]; omega
    have hq : ((x : Int).tdiv 10) = ((x / 10 : Nat) : Int) := by rw [Int.tdiv_eq_ediv_of_nonneg (by omega)]; omega
    have hwq : IntKind.i64.wrap ((x / 10 : Nat) : Int) = ((x / 10 : Nat) : Int) := IntWalk.i64_in _ (by omega)
    have h2 : ¬ (x : Int) < 10 := by omega
    have h3 : 0 ≤ (x : Int) := by omega
    have h1 : (-10 : Int) < (x : Int) := by omega
    have hrec := rec hs
    rw [show ((x / 10 : Nat) : Int) = (x : Int) / 10 from by omega] at hrec
    replace hrec := Lib.hid hrec
    have e := decDigits_more hs
    have e2 : ∀ d, x % 10 = d → (⟨(Lib.itoa ((x : Int) / 10)).toArray⟩ : ByteArray) ++ ⟨#[UInt8.ofNat (48 + d)]⟩ = ⟨(Lib.itoa (x : Int)).toArray⟩ := by
      intro d hd
      rw [show (x : Int) / 10 = ((x / 10 : Nat) : Int) from by omega, itoa_nat, itoa_nat, e, ← hd]
      exact bytes_app _ [_]
    replace e2 := Lib.hid e2
    have hle : ¬ 9223372036854775807 < (Lib.itoa ((x : Int) / 10)).length + 1 := by have := itoa_len ((x : Int) / 10) (by omega) (by omega); omega
    clear rec e hs
    have hd9 : x % 10 < 10 := Nat.mod_lt _ (by decide)
    generalize hdd : x % 10 = d at *
    replace hdd := Lib.hid hdd
    rcases (show d = 0 ∨ d = 1 ∨ d = 2 ∨ d = 3 ∨ d = 4 ∨ d = 5 ∨ d = 6 ∨ d = 7 ∨ d = 8 ∨ d = 9 from by omega) with rfl | rfl | rfl | rfl | rfl | rfl | rfl | rfl | rfl | rfl
    all_goals
      clear hd9
      norm_cast at hm
      go_enter Tryd.func28, Tryd.ntmps28
      go_wp2_with fail
      with_reducible refine hrec.out.mono ?_
      rintro e w1 ⟨rfl, rfl⟩
      clear hrec
      go_wp2_with fail
      go_ret
      refine ⟨?_, rfl⟩
      rw [← e2.out _ rfl]
      exact congrArg (fun b => Ending.returned (Value.string (_ ++ b))) (by kernel_rfl)

set_option maxRecDepth 10000 in
set_option maxHeartbeats 4000000 in
theorem figures_neg (x : Nat) (h0 : x ≠ 0) (hx : x ≤ 9223372036854775808) (n : Int) (hn : n = -(x : Int)) (w : World) (rec : ¬ x < 10 → ∀ q, q = -((x / 10 : Nat) : Int) → Calls Tryd.prog 28 #[.int .i64 q] w fun e w' => e = .returned (.string ⟨(Lib.itoa q).toArray⟩) ∧ w = w') :
    Calls Tryd.prog 28 #[.int .i64 n] w fun e w' => e = .returned (.string ⟨(Lib.itoa n).toArray⟩) ∧ w = w' := by
  by_cases hs : x < 10
  · have e := Lib.decDigits_one hs
    rw [hn, itoa_neg x h0, e]
    clear rec e
    rcases (show x = 1 ∨ x = 2 ∨ x = 3 ∨ x = 4 ∨ x = 5 ∨ x = 6 ∨ x = 7 ∨ x = 8 ∨ x = 9 from by omega) with rfl | rfl | rfl | rfl | rfl | rfl | rfl | rfl | rfl
    all_goals
      clear hx hs h0 hn
      norm_cast
      go_enter Tryd.func28, Tryd.ntmps28
      go_wp2_with fail
      go_ret
      exact ⟨by kernel_rfl, rfl⟩
  · obtain ⟨q, hqd⟩ : ∃ q : Int, q = -((x / 10 : Nat) : Int) := ⟨_, rfl⟩
    have hm : n.tmod 10 = -((x % 10 : Nat) : Int) := by rw [hn, Int.neg_tmod, Int.tmod_eq_emod_of_nonneg (by omega)]; omega
    have hq : n.tdiv 10 = q := by rw [hn, hqd, Int.neg_tdiv, Int.tdiv_eq_ediv_of_nonneg (by omega)]; omega
    have hwq : IntKind.i64.wrap q = q := IntWalk.i64_in _ (by omega)
    have h3 : ¬ 0 ≤ n := by omega
    have h1 : ¬ (-10 : Int) < n := by omega
    have hrec := Lib.hid (rec hs q hqd)
    have e := decDigits_more hs
    have e2 : ∀ d, x % 10 = d → (⟨(Lib.itoa q).toArray⟩ : ByteArray) ++ ⟨#[UInt8.ofNat (48 + d)]⟩ = ⟨(Lib.itoa n).toArray⟩ := by
      intro d hd
      rw [hqd, hn, itoa_neg _ (by omega), itoa_neg _ h0, e, ← hd]
      exact bytes_app _ [_]
    replace e2 := Lib.hid e2
    have hle : ¬ 9223372036854775807 < (Lib.itoa q).length + 1 := by have := itoa_len q (by omega) (by omega); omega
    have hd9 : x % 10 < 10 := Nat.mod_lt _ (by decide)
    generalize hdd : x % 10 = d at *
    replace hdd := Lib.hid hdd
    clear rec e hs hn hqd h0 hx
    rcases (show d = 0 ∨ d = 1 ∨ d = 2 ∨ d = 3 ∨ d = 4 ∨ d = 5 ∨ d = 6 ∨ d = 7 ∨ d = 8 ∨ d = 9 from by omega) with rfl | rfl | rfl | rfl | rfl | rfl | rfl | rfl | rfl | rfl
    all_goals
      clear hd9
      norm_cast at hm
      go_enter Tryd.func28, Tryd.ntmps28
      go_wp2_with fail
      with_reducible refine hrec.out.mono ?_
      rintro e w1 ⟨rfl, rfl⟩
      clear hrec
      go_wp2_with fail
      go_ret
      refine ⟨?_, rfl⟩
      rw [← e2.out _ rfl]
      exact congrArg (fun b => Ending.returned (Value.string (_ ++ b))) (by kernel_rfl)

theorem figures_any : ∀ (m : Nat) (n : Int), n.natAbs = m → -9223372036854775808 ≤ n → n ≤ 9223372036854775807 → ∀ w, Calls Tryd.prog 28 #[.int .i64 n] w fun e w' => e = .returned (.string ⟨(Lib.itoa n).toArray⟩) ∧ w = w' := by
  intro m
  induction m using Nat.strongRecOn with
  | ind m ih =>
    intro n hm h1 h2 w
    rcases (show n < 0 ∨ 0 ≤ n from by omega) with h | h
    · have hn : n = -(m : Int) := by omega
      refine figures_neg m (by omega) (by omega) n hn w fun hb q hq => ?_
      exact ih (m / 10) (by omega) q (by omega) (by omega) (by omega) w
    · have hn : n = (m : Int) := by omega
      rw [hn]
      refine figures_pos m (by omega) w fun hb => ?_
      exact ih (m / 10) (by omega) _ (by omega) (by omega) (by omega) w

end Go.Proofs.YtebfjpagecakjaaDoor
