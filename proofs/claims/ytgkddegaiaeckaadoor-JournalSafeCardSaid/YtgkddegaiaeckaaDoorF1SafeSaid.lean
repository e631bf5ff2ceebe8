/- Back, ShaT. -/
import Derived.RangeFuncBox
import Derived.RangeFuncLeaves
import Derived.RangeFuncCalls
import Derived.Shelf.Abstract
import Derived.OwnWalkIn
import Derived.TacticsInMore
import Derived.LoopNIn
import Derived.LoopIn
import Derived.Test.YtgkddegaiaeckaaDoorRows
import Derived.Test.YtgkddegaiaeckaaDoorMem
import Derived.Test.YtgkddegaiaeckaaDoorShaL
import Derived.IntWalk
/- slices.Backward over bytes: a range over a function; slices.Clone. -/
namespace Go.Proofs.YtgkddegaiaeckaaDoor
open Go.RowKit Go.Shelf

attribute [local go_sem] Oper.semAt_some

/-- What has come when k rounds are over. -/
def upto {α : Type} (f : Nat → α) (k : Nat) : List α := (List.range k).map f
theorem upto_succ {α : Type} (f : Nat → α) (k : Nat) : upto f (k + 1) = upto f k ++ [f k] := by simp [upto, List.range_succ]
theorem upto_length {α : Type} (f : Nat → α) (k : Nat) : (upto f k).length = k := by simp [upto]

/-- The pairs that slices.Backward hands out: the k-th. -/
def backAt (bs : List UInt8) (k : Nat) : Nat × UInt8 := (bs.length - 1 - k, bs.getD (bs.length - 1 - k) 0)
/-- The bytes lie below n₀. -/
def RowN (n₀ : Nat) (w : World) (a : Option Addr) (bs : List UInt8) : Prop :=
  ∀ i, i < bs.length → ∃ b off, a = some ⟨b, off, none⟩ ∧ b < n₀ ∧ w.cell? ⟨b, off + i, none⟩ = some (.int .u8 ((bs.getD i 0).toNat : Int))
theorem RowB.rowN {w : World} {a : Option Addr} {bs : List UInt8} (h : RowB w a bs) : RowN w.heap.size w a bs := by
  intro i hi
  obtain ⟨b, off, rfl, hc⟩ := h i hi
  exact ⟨b, off, rfl, World.block_lt_of_cell? w _ hc, hc⟩
theorem RowN.below {n₀ : Nat} {A B : World} (h : Below n₀ A B) {a : Option Addr} {bs : List UInt8} (hr : RowN n₀ A a bs) : RowN n₀ B a bs := by
  intro i hi
  obtain ⟨b, off, rfl, hb, hc⟩ := hr i hi
  exact ⟨b, off, rfl, hb, (h.cell (p := ⟨b, off + i, none⟩) hb).trans hc⟩

/-- What a round keeps: what lay below n₀, and the iterator's own box. -/
def KeepB (n₀ Bs : Nat) (W W' : World) : Prop := Below n₀ W W' ∧ W'.heap[Bs]? = W.heap[Bs]?
theorem KeepB.refl (n₀ Bs : Nat) (W : World) : KeepB n₀ Bs W W := ⟨Below.refl _ _, rfl⟩
theorem keepB_t {n₀ Bs : Nat} {A B C : World} (h : KeepB n₀ Bs A B) (k : KeepB n₀ Bs B C) : KeepB n₀ Bs A C := ⟨h.1.trans k.1, k.2.trans h.2⟩
theorem keepB_b {n₀ Bs : Nat} {w : World} (hn : n₀ ≤ w.heap.size) (hB : Bs < w.heap.size) (W : World) (l : Nat) (o o' : Obj) (hl : w.heap.size ≤ l) (h : W.heap[l]? = some o) (h1 : o.isCells = false) (h2 : o.isWalk = false) : KeepB n₀ Bs W (W.putObj l o') :=
  ⟨belowK_b hn W l o o' hl h h1 h2, World.putObj_heap_other (by omega)⟩
theorem KeepB.boxed {n₀ Bs : Nat} {W W' : World} {t : TypeId} {v : Value} (h : KeepB n₀ Bs W W') (hb : Boxed W Bs t v) : Boxed W' Bs t v := h.2.trans hb

end Go.Proofs.YtgkddegaiaeckaaDoor
/- The walks over the turns of a word: math/bits.RotateLeft32, turned, mixed of package sha, the reference's turn. -/
namespace Go.Proofs.YtgkddegaiaeckaaDoor
open Go.RowKit

theorem and31 (a : Nat) (h1 : 1 ≤ a) (h2 : a ≤ 31) : bits BinOp.and IntKind.u64 (18446744073709551616 - (a : Int)) 31 = 32 - (a : Int) := by
  have h := u64_and_nat (18446744073709551616 - a) 31 (by omega) (by omega)
  rw [show ((18446744073709551616 - a : Nat) : Int) = 18446744073709551616 - (a : Int) from by omega, show ((31 : Nat) : Int) = 31 from rfl] at h
  rw [h]
  have e : (18446744073709551616 - a) &&& 31 = (18446744073709551616 - a) % 32 := Nat.and_two_pow_sub_one_eq_mod _ 5
  rw [e]
  omega

theorem wrap_neg (a : Nat) (h1 : 1 ≤ a) (h2 : a ≤ 31) : IntKind.u64.wrap (-(a : Int)) = 18446744073709551616 - (a : Int) := by
  rw [IntKind.wrap_u64]; omega
theorem rot_eq (x : W32) (a : Nat) (h1 : 1 ≤ a) (h2 : a ≤ 31) :
    bits BinOp.or IntKind.u32 ((wn x) * 2 ^ (32 - a) % 4294967296) ((wn x) / 2 ^ a) = (wn (rotr x a)) := by
  have e1 : (2 : Int) ^ (32 - a) = ((2 ^ (32 - a) : Nat) : Int) := by simp
  have e2 : (2 : Int) ^ a = ((2 ^ a : Nat) : Int) := by simp
  rw [e1, e2, shl32 x (32 - a) (by omega), shr32 x a (by omega), or32]
  unfold rotr
  rw [UInt32.or_comm]

theorem rot_eq' (x : W32) (a : Nat) (h1 : 1 ≤ a) (h2 : a ≤ 31) :
    bits BinOp.or IntKind.u32 ((wn x) / 2 ^ a) ((wn x) * 2 ^ (32 - a) % 4294967296) = (wn (rotr x a)) := by
  have e1 : (2 : Int) ^ (32 - a) = ((2 ^ (32 - a) : Nat) : Int) := by simp
  have e2 : (2 : Int) ^ a = ((2 ^ a : Nat) : Int) := by simp
  rw [e1, e2, shl32 x (32 - a) (by omega), shr32 x a (by omega), or32]
  rfl

set_option maxHeartbeats 1000000 in
theorem rotl_any (x : W32) (a : Nat) (h1 : 1 ≤ a) (h2 : a ≤ 31) (w : World) : Calls Tryd.prog 90 #[.int .u32 (wn x), .int .i64 (-(a : Int))] w fun e w' => e = .returned (.int .u32 (wn (rotr x a))) ∧ w = w' := by
  have hand : bits BinOp.and IntKind.u64 (IntKind.u64.wrap (-(a : Int))) 31 = 32 - (a : Int) := by rw [wrap_neg a h1 h2]; exact and31 a h1 h2
  have hl := wn_range x
  have hs0 : (0 : Int) ≤ 32 - (a : Int) := by omega
  have hs1 : 32 - (a : Int) ≤ 32 := by omega
  have hs2 : 32 - (32 - (a : Int)) = (a : Int) := by omega
  have hs3 := IntWalk.u64_in (a : Int) (by omega)
  have hs4 : (0 : Int) ≤ (a : Int) := by omega
  have hs5 : (a : Int) ≤ 32 := by omega
  have hrot := rot_eq x a h1 h2
  go_enter Tryd.func90, Tryd.ntmps90
  go_wp2_with fail
  go_ret
  exact ⟨rfl, rfl⟩

set_option maxHeartbeats 1000000 in
theorem turned_any (x : W32) (a b c : Nat) (ha : 1 ≤ a ∧ a ≤ 31) (hb : 1 ≤ b ∧ b ≤ 31) (hc : 1 ≤ c ∧ c ≤ 31) (w : World) :
    Calls Tryd.prog 82 #[.int .u32 (wn x), .int .i64 (a : Int), .int .i64 (b : Int), .int .i64 (c : Int)] w fun e w' => e = .returned (.int .u32 (wn (rotr x a ^^^ rotr x b ^^^ rotr x c))) ∧ w = w' := by
  have h1 := xor32 (rotr x a) (rotr x b)
  have h2 := xor32 (rotr x a ^^^ rotr x b) (rotr x c)
  go_enter Tryd.func82, Tryd.ntmps82
  go_wp2_with fail
  with_reducible refine (rotl_any x a ha.1 ha.2 _).mono ?_
  rintro e w1 ⟨rfl, rfl⟩
  go_wp2_with fail
  with_reducible refine (rotl_any x b hb.1 hb.2 _).mono ?_
  rintro e w1 ⟨rfl, rfl⟩
  go_wp2_with fail
  with_reducible refine (rotl_any x c hc.1 hc.2 _).mono ?_
  rintro e w1 ⟨rfl, rfl⟩
  go_wp2_with fail
  go_ret
  exact ⟨rfl, rfl⟩

set_option maxHeartbeats 1000000 in
theorem mixed_any (x : W32) (a b c : Nat) (ha : 1 ≤ a ∧ a ≤ 31) (hb : 1 ≤ b ∧ b ≤ 31) (hc : 1 ≤ c ∧ c ≤ 31) (w : World) :
    Calls Tryd.prog 89 #[.int .u32 (wn x), .int .i64 (a : Int), .int .i64 (b : Int), .int .i64 (c : Int)] w fun e w' => e = .returned (.int .u32 (wn (rotr x a ^^^ rotr x b ^^^ (x >>> UInt32.ofNat c)))) ∧ Drawn w w' := by
  have h1 := xor32 (rotr x a) (rotr x b)
  have h2 := xor32 (rotr x a ^^^ rotr x b) (x >>> UInt32.ofNat c)
  have h3 : wn x / 2 ^ c = wn (x >>> UInt32.ofNat c) := by
    rw [← shr32 x c (by omega)]; simp
  have hc0 : (0 : Int) ≤ (c : Int) := by omega
  have hc1 : (c : Int) ≤ 32 := by omega
  go_enter Tryd.func89, Tryd.ntmps89
  go_wp2_with fail
  go_quiet (first | (go_at_call 90; with_reducible exact quiet_eq (rotl_any x a ha.1 ha.2 _)) | (go_at_call 90; with_reducible exact quiet_eq (rotl_any x b hb.1 hb.2 _)))
  go_wp2_with fail
  go_ret
  exact ⟨rfl, _, rfl⟩

set_option maxHeartbeats 1000000 in
theorem rturn_any (x : W32) (a : Nat) (h1 : 1 ≤ a) (h2 : a ≤ 31) (w : World) : Calls Tryd.prog 49 #[.int .u32 (wn x), .int .u64 (a : Int)] w fun e w' => e = .returned (.int .u32 (wn (rotr x a))) ∧ w = w' := by
  have hs0 : (0 : Int) ≤ 32 - (a : Int) := by omega
  have hs1 : 32 - (a : Int) ≤ 32 := by omega
  have hs3 := IntWalk.u64_in (32 - (a : Int)) (by omega)
  have hs4 : (0 : Int) ≤ (a : Int) := by omega
  have hs5 : (a : Int) ≤ 32 := by omega
  have hl := wn_range x
  have hrot := rot_eq' x a h1 h2
  go_enter Tryd.func49, Tryd.ntmps49
  go_wp2_with fail
  go_ret
  exact ⟨rfl, rfl⟩

/-! ### at the numbers of the program -/
theorem small1_any (x : W32) (w : World) : Calls Tryd.prog 89 #[.int .u32 (wn x), .int .i64 17, .int .i64 19, .int .i64 10] w fun e w' => e = .returned (.int .u32 (wn (small1 x))) ∧ Drawn w w' :=
  mixed_any x 17 19 10 (by omega) (by omega) (by omega) w
theorem small0_any (x : W32) (w : World) : Calls Tryd.prog 89 #[.int .u32 (wn x), .int .i64 7, .int .i64 18, .int .i64 3] w fun e w' => e = .returned (.int .u32 (wn (small0 x))) ∧ Drawn w w' :=
  mixed_any x 7 18 3 (by omega) (by omega) (by omega) w
theorem big1_any (x : W32) (w : World) : Calls Tryd.prog 82 #[.int .u32 (wn x), .int .i64 6, .int .i64 11, .int .i64 25] w fun e w' => e = .returned (.int .u32 (wn (big1 x))) ∧ w = w' :=
  turned_any x 6 11 25 (by omega) (by omega) (by omega) w
theorem big0_any (x : W32) (w : World) : Calls Tryd.prog 82 #[.int .u32 (wn x), .int .i64 2, .int .i64 13, .int .i64 22] w fun e w' => e = .returned (.int .u32 (wn (big0 x))) ∧ w = w' :=
  turned_any x 2 13 22 (by omega) (by omega) (by omega) w

end Go.Proofs.YtgkddegaiaeckaaDoor
