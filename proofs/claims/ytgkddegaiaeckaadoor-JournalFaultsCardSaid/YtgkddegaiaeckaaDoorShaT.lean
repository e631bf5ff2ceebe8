/- The walks over the turns of a word: math/bits.RotateLeft32, turned, mixed of package sha, the reference's turn. -/
import Derived.Test.YtgkddegaiaeckaaDoorShaL
import Derived.IntWalk
namespace Go.Proofs.YtgkddegaiaeckaaDoor
open Go.RowKit

theorem and31 (a : Nat) (h1 : 1 ≤ a) (h2 : a ≤ 31) : bits BinOp.and IntKind.u64 (18446744073709551616 - (a : Int)) 31 = 32 - (a : Int) := by
  have h := u64_and_nat (18446744073709551616 - a) 31 (by omega) (by omega)
  rw [show ((18446744073709551616 - a : Nat) : Int) = 18446744073709551616 - (a : Int) from by omega, show ((31 : Nat) : Int) = 31 from rfl] at h
  rw [h]
  have e : (18446744073709551616 - a) &&& 31 = (18446744073709551616 - a) % 32 := Nat.and_two_pow_sub_one_eq_mod _ 5
  rw [e]
  omega

theorem wrap_neg (a : Nat) (h1 : 1 ≤ a) (h2 : a ≤ 31) : IntKind.u64.wrap (-(a : Int)) = 18446744073709551616 - (a : Int) := by
  rw [IntKind.wrap_u64]; omega
theorem rot_eq (x : W32) (a : Nat) (h1 : 1 ≤ a) (h2 : a ≤ 31) :
    bits BinOp.or IntKind.u32 ((wn x) * 2 ^ (32 - a) % 4294967296) ((wn x) / 2 ^ a) = (wn (rotr x a)) := by
  have e1 : (2 : Int) ^ (32 - a) = ((2 ^ (32 - a) : Nat) : Int) := by simp
  have e2 : (2 : Int) ^ a = ((2 ^ a : Nat) : Int) := by simp
  rw [e1, e2, shl32 x (32 - a) (by omega), shr32 x a (by omega), or32]
  unfold rotr
  rw [UInt32.or_comm]

theorem rot_eq' (x : W32) (a : Nat) (h1 : 1 ≤ a) (h2 : a ≤ 31) :
    bits BinOp.or IntKind.u32 ((wn x) / 2 ^ a) ((wn x) * 2 ^ (32 - a) % 4294967296) = (wn (rotr x a)) := by
  have e1 : (2 : Int) ^ (32 - a) = ((2 ^ (32 - a) : Nat) : Int) := by simp
  have e2 : (2 : Int) ^ a = ((2 ^ a : Nat) : Int) := by simp
  rw [e1, e2, shl32 x (32 - a) (by omega), shr32 x a (by omega), or32]
  rfl

set_option maxHeartbeats 1000000 in
theorem rotl_any (x : W32) (a : Nat) (h1 : 1 ≤ a) (h2 : a ≤ 31) (w : World) : Calls Tryd.prog 90 #[.int .u32 (wn x), .int .i64 (-(a : Int))] w fun e w' => e = .returned (.int .u32 (wn (rotr x a))) ∧ w = w' := by
  have hand : bits BinOp.and IntKind.u64 (IntKind.u64.wrap (-(a : Int))) 31 = 32 - (a : Int) := by rw [wrap_neg a h1 h2]; exact and31 a h1 h2
  have hl := wn_range x
  have hs0 : (0 : Int) ≤ 32 - (a : Int) := by omega
  have hs1 : 32 - (a : Int) ≤ 32 := by omega
  have hs2 : 32 - (32 - (a : Int)) = (a : Int) := by omega
  have hs3 := IntWalk.u64_in (a : Int) (by omega)
  have hs4 : (0 : Int) ≤ (a : Int) := by omega
  have hs5 : (a : Int) ≤ 32 := by omega
  have hrot := rot_eq x a h1 h2
  go_enter Tryd.func90, Tryd.ntmps90
  go_wp2_with fail
  go_ret
  exact ⟨rfl, rfl⟩

set_option maxHeartbeats 1000000 in
theorem turned_any (x : W32) (a b c : Nat) (ha : 1 ≤ a ∧ a ≤ 31) (hb : 1 ≤ b ∧ b ≤ 31) (hc : 1 ≤ c ∧ c ≤ 31) (w : World) :
    Calls Tryd.prog 82 #[.int .u32 (wn x), .int .i64 (a : Int), .int .i64 (b : Int), .int .i64 (c : Int)] w fun e w' => e = .returned (.int .u32 (wn (rotr x a ^^^ rotr x b ^^^ rotr x c))) ∧ w = w' := by
  have h1 := xor32 (rotr x a) (rotr x b)
  have h2 := xor32 (rotr x a ^^^ rotr x b) (rotr x c)
  go_enter Tryd.func82, Tryd.ntmps82
  go_wp2_with fail
  with_reducible refine (rotl_any x a ha.1 ha.2 _).mono ?_
  rintro e w1 ⟨rfl, rfl⟩
  go_wp2_with fail
  with_reducible refine (rotl_any x b hb.1 hb.2 _).mono ?_
  rintro e w1 ⟨rfl, rfl⟩
  go_wp2_with fail
  with_reducible refine (rotl_any x c hc.1 hc.2 _).mono ?_
  rintro e w1 ⟨rfl, rfl⟩
  go_wp2_with fail
  go_ret
  exact ⟨rfl, rfl⟩

set_option maxHeartbeats 1000000 in
theorem mixed_any (x : W32) (a b c : Nat) (ha : 1 ≤ a ∧ a ≤ 31) (hb : 1 ≤ b ∧ b ≤ 31) (hc : 1 ≤ c ∧ c ≤ 31) (w : World) :
    Calls Tryd.prog 89 #[.int .u32 (wn x), .int .i64 (a : Int), .int .i64 (b : Int), .int .i64 (c : Int)] w fun e w' => e = .returned (.int .u32 (wn (rotr x a ^^^ rotr x b ^^^ (x >>> UInt32.ofNat c)))) ∧ Drawn w w' := by
  have h1 := xor32 (rotr x a) (rotr x b)
  have h2 := xor32 (rotr x a ^^^ rotr x b) (x >>> UInt32.ofNat c)
  have h3 : wn x / 2 ^ c = wn (x >>> UInt32.ofNat c) := by
    rw [← shr32 x c (by omega)]; simp
  have hc0 : (0 : Int) ≤ (c : Int) := by omega
  have hc1 : (c : Int) ≤ 32 := by omega
  go_enter Tryd.func89, Tryd.ntmps89
  go_wp2_with fail
  go_quiet (first | (go_at_call 90; with_reducible exact quiet_eq (rotl_any x a ha.1 ha.2 _)) | (go_at_call 90; with_reducible exact quiet_eq (rotl_any x b hb.1 hb.2 _)))
  go_wp2_with fail
  go_ret
  exact ⟨rfl, _, rfl⟩

set_option maxHeartbeats 1000000 in
theorem rturn_any (x : W32) (a : Nat) (h1 : 1 ≤ a) (h2 : a ≤ 31) (w : World) : Calls Tryd.prog 49 #[.int .u32 (wn x), .int .u64 (a : Int)] w fun e w' => e = .returned (.int .u32 (wn (rotr x a))) ∧ w = w' := by
  have hs0 : (0 : Int) ≤ 32 - (a : Int) := by omega
  have hs1 : 32 - (a : Int) ≤ 32 := by omega
  have hs3 := IntWalk.u64_in (32 - (a : Int)) (by omega)
  have hs4 : (0 : Int) ≤ (a : Int) := by omega
  have hs5 : (a : Int) ≤ 32 := by omega
  have hl := wn_range x
  have hrot := rot_eq' x a h1 h2
  go_enter Tryd.func49, Tryd.ntmps49
  go_wp2_with fail
  go_ret
  exact ⟨rfl, rfl⟩

/-! ### at the numbers of the program -/
theorem small1_any (x : W32) (w : World) : Calls Tryd.prog 89 #[.int .u32 (wn x), .int .i64 17, .int .i64 19, .int .i64 10] w fun e w' => e = .returned (.int .u32 (wn (small1 x))) ∧ Drawn w w' :=
  mixed_any x 17 19 10 (by omega) (by omega) (by omega) w
theorem small0_any (x : W32) (w : World) : Calls Tryd.prog 89 #[.int .u32 (wn x), .int .i64 7, .int .i64 18, .int .i64 3] w fun e w' => e = .returned (.int .u32 (wn (small0 x))) ∧ Drawn w w' :=
  mixed_any x 7 18 3 (by omega) (by omega) (by omega) w
theorem big1_any (x : W32) (w : World) : Calls Tryd.prog 82 #[.int .u32 (wn x), .int .i64 6, .int .i64 11, .int .i64 25] w fun e w' => e = .returned (.int .u32 (wn (big1 x))) ∧ w = w' :=
  turned_any x 6 11 25 (by omega) (by omega) (by omega) w
theorem big0_any (x : W32) (w : World) : Calls Tryd.prog 82 #[.int .u32 (wn x), .int .i64 2, .int .i64 13, .int .i64 22] w fun e w' => e = .returned (.int .u32 (wn (big0 x))) ∧ w = w' :=
  turned_any x 2 13 22 (by omega) (by omega) (by omega) w

end Go.Proofs.YtgkddegaiaeckaaDoor
