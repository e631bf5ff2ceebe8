/- slices.Backward over bytes: a range over a function; slices.Clone. -/
import Derived.RangeFuncBox
import Derived.RangeFuncLeaves
import Derived.RangeFuncCalls
import Derived.Shelf.Abstract
import Derived.OwnWalkIn
import Derived.TacticsInMore
import Derived.LoopNIn
import Derived.LoopIn
import Derived.Test.YtenkdikdofhnpaaDoorRows
import Derived.Test.YtenkdikdofhnpaaDoorMem
namespace Go.Proofs.YtenkdikdofhnpaaDoor
open Go.RowKit Go.Shelf

attribute [local go_sem] Oper.semAt_some

/-- What has come when k rounds are over. -/
def upto {α : Type} (f : Nat → α) (k : Nat) : List α := (List.range k).map f
theorem upto_succ {α : Type} (f : Nat → α) (k : Nat) : upto f (k + 1) = upto f k ++ [f k] := by simp [upto, List.range_succ]
theorem upto_length {α : Type} (f : Nat → α) (k : Nat) : (upto f k).length = k := by simp [upto]

/-- The pairs that slices.Backward hands out: the k-th. -/
def backAt (bs : List UInt8) (k : Nat) : Nat × UInt8 := (bs.length - 1 - k, bs.getD (bs.length - 1 - k) 0)
/-- The bytes lie below n₀. -/
def RowN (n₀ : Nat) (w : World) (a : Option Addr) (bs : List UInt8) : Prop :=
  ∀ i, i < bs.length → ∃ b off, a = some ⟨b, off, none⟩ ∧ b < n₀ ∧ w.cell? ⟨b, off + i, none⟩ = some (.int .u8 ((bs.getD i 0).toNat : Int))
theorem RowB.rowN {w : World} {a : Option Addr} {bs : List UInt8} (h : RowB w a bs) : RowN w.heap.size w a bs := by
  intro i hi
  obtain ⟨b, off, rfl, hc⟩ := h i hi
  exact ⟨b, off, rfl, World.block_lt_of_cell? w _ hc, hc⟩
theorem RowN.below {n₀ : Nat} {A B : World} (h : Below n₀ A B) {a : Option Addr} {bs : List UInt8} (hr : RowN n₀ A a bs) : RowN n₀ B a bs := by
  intro i hi
  obtain ⟨b, off, rfl, hb, hc⟩ := hr i hi
  exact ⟨b, off, rfl, hb, (h.cell (p := ⟨b, off + i, none⟩) hb).trans hc⟩

/-- What a round keeps: what lay below n₀, and the iterator's own box. -/
def KeepB (n₀ Bs : Nat) (W W' : World) : Prop := Below n₀ W W' ∧ W'.heap[Bs]? = W.heap[Bs]?
theorem KeepB.refl (n₀ Bs : Nat) (W : World) : KeepB n₀ Bs W W := ⟨Below.refl _ _, rfl⟩
theorem keepB_t {n₀ Bs : Nat} {A B C : World} (h : KeepB n₀ Bs A B) (k : KeepB n₀ Bs B C) : KeepB n₀ Bs A C := ⟨h.1.trans k.1, k.2.trans h.2⟩
theorem keepB_b {n₀ Bs : Nat} {w : World} (hn : n₀ ≤ w.heap.size) (hB : Bs < w.heap.size) (W : World) (l : Nat) (o o' : Obj) (hl : w.heap.size ≤ l) (h : W.heap[l]? = some o) (h1 : o.isCells = false) (h2 : o.isWalk = false) : KeepB n₀ Bs W (W.putObj l o') :=
  ⟨belowK_b hn W l o o' hl h h1 h2, World.putObj_heap_other (by omega)⟩
theorem KeepB.boxed {n₀ Bs : Nat} {W W' : World} {t : TypeId} {v : Value} (h : KeepB n₀ Bs W W') (hb : Boxed W Bs t v) : Boxed W' Bs t v := h.2.trans hb

set_option maxRecDepth 100000 in
set_option maxHeartbeats 2000000 in
theorem back1_in (F : Fence) (n : Nat) (h7 : F.fn 45) (hro : F.round = none) (hn : 1 ≤ n) (l Bs n₀ : Nat) (a : Option Addr) (cap : Nat) (bs : List UInt8) (hreach : bs.length ≤ 1000000) (J Jx : List (Nat × UInt8) → World → Prop)
    (hY : ∀ pre x W, J pre W → pre.length < bs.length → YieldAt F (n - 1) Tryd.prog l #[.int .i64 (x.1 : Int), .int .u8 (x.2.toNat : Int)] W fun e W' =>
      (e = .returned (.bool true) ∧ J (pre ++ [x]) W' ∧ KeepB n₀ Bs W W') ∨ (e = .returned (.bool false) ∧ Jx (pre ++ [x]) W'))
    (W : World) (hBs : Boxed W Bs 22 (.slice a bs.length cap)) (hc : RowN n₀ W a bs) (h0 : J [] W) :
    CallsIn F n Tryd.prog 45 #[.func (.yield l) #[] #[], .pointer (some ⟨Bs, 0, none⟩)] W fun e W' => (∃ v, e = .returned v) ∧
      ((∃ ys, ys = upto (backAt bs) bs.length ∧ J ys W') ∨ (∃ pre, (∃ k, k ≤ bs.length ∧ pre = upto (backAt bs) k) ∧ Jx pre W')) := by
  refine callsIn_of_wp Tryd.func45 rfl h7 ?_ hro
  simp only [Tryd.ntmps45, List.size_toArray, List.length_cons, List.length_nil, Nat.reduceAdd, Nat.reduceSub, Array.replicate_succ, Array.replicate_zero, List.push_toArray, List.append_toArray, List.nil_append, List.cons_append]
  replace hc := Lib.hid hc
  have hBc := hBs.cell
  gi_wp2
  gi_loopw [3] (fun i wr => ∃ k m : Nat, k + m = bs.length ∧ i = .int .i64 ((m : Int) - 1) ∧ J (upto (backAt bs) k) wr ∧ KeepB n₀ Bs W wr)
    (fun i _ => (intOf i + 1).toNat)
  case atStart => exact ⟨0, bs.length, by omega, rfl, h0, KeepB.refl _ _ _⟩
  case round =>
    obtain ⟨k, m, hk, rfl, hJs, hnx⟩ := hrel
    have hBx := (hnx.boxed hBs).cell
    cases m with
    | succ m =>
      obtain ⟨b, off, rfl, hb, hcx⟩ := hc.out m (by omega)
      replace hcx := (hnx.1.cell (p := ⟨b, off + m, none⟩) hb).trans hcx
      obtain ⟨fn, tmps, assign, body, hy, hR⟩ := hY _ (m, bs.getD m 0) wr hJs (by rw [upto_length]; omega)
      have hback : backAt bs k = (m, bs.getD m 0) := by unfold backAt; rw [show bs.length - 1 - k = m from by omega]
      replace hback := Lib.hid hback
      dsimp only at hy
      have hm1 : ((m + 1 : Nat) : Int) - 1 = (m : Int) := by omega
      rw [hm1]
      clear hm1
      generalize bs.getD m 0 = x at *
      gi_wp2
      refine hR.mono ?_
      rintro e W3 (⟨rfl, hJ3, hk3⟩ | ⟨rfl, hJx3⟩)
      · gi_wp2
        go_roundw
        case rel => exact ⟨k + 1, m, by omega, by go_num, by rw [upto_succ, hback.out]; exact hJ3, keepB_t hnx hk3⟩
        case measure => simp [intOf]
      · gi_wp2
        refine bodyPost_ret (results_none rfl _ _ _) rfl ?_
        exact ⟨⟨_, rfl⟩, .inr ⟨_, ⟨k + 1, by omega, by rw [upto_succ, hback.out]⟩, hJx3⟩⟩
    | zero =>
      obtain rfl : k = bs.length := by omega
      gi_wp2
      go_end0
      exact ⟨⟨_, rfl⟩, .inl ⟨_, rfl, hJs⟩⟩

set_option maxHeartbeats 1000000 in
theorem back_in (F : Fence) (n : Nat) (h5 : F.fn 44) (hro : F.round = none) (a : Option Addr) (len cap : Nat) (w : World) :
    CallsIn F n Tryd.prog 44 #[.slice a len cap] w fun e w' => e = .returned (.func (.func 45) #[] #[.pointer (some ⟨w.heap.size, 0, none⟩)]) ∧ w' = w.alloc (.cells #[.slice a len cap] 22) := by
  refine callsIn_of_wp Tryd.func44 rfl h5 ?_ hro
  simp only [Tryd.ntmps44, List.size_toArray, List.length_cons, List.length_nil, Nat.reduceAdd, Nat.reduceSub, Array.replicate_succ, Array.replicate_zero, List.push_toArray, List.append_toArray, List.nil_append, List.cons_append]
  gi_wp2
  go_ret
  exact ⟨rfl, rfl⟩

theorem back_stops (F : Fence) (n : Nat) (h8 : F.fn 45) (hro : F.round = none) (hn : 1 ≤ n) (Bs n₀ : Nat) (a : Option Addr) (cap : Nat) (bs : List UInt8) (hreach : bs.length ≤ 1000000) (w : World) (hn₀ : n₀ ≤ w.heap.size)
    (hc : Boxed w Bs 22 (.slice a bs.length cap)) (hI : RowN n₀ w a bs) :
    SeqStopsK F n Tryd.prog 45 #[.pointer (some ⟨Bs, 0, none⟩)] (fun x : Nat × UInt8 => #[Value.int .i64 (x.1 : Int), Value.int .u8 (x.2.toNat : Int)]) (KeepB n₀ Bs) (fun ys => ys = upto (backAt bs) bs.length)
      (fun pre => ∃ k, k ≤ bs.length ∧ pre = upto (backAt bs) k) bs.length w := fun l J Jx W hW _ _ hY h0 =>
  back1_in F n h8 hro hn l Bs n₀ a cap bs hreach J Jx hY W ((hW.block Bs hc.lt).trans hc) (hI.below (hW.mono hn₀)) h0

end Go.Proofs.YtenkdikdofhnpaaDoor
