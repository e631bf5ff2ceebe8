/- slices.Backward over bytes: a range over a function; slices.Clone. -/
import Derived.RangeFuncBox
import Derived.RangeFuncLeaves
import Derived.RangeFuncCalls
import Derived.Shelf.Abstract
import Derived.OwnWalkIn
import Derived.TacticsInMore
import Derived.LoopNIn
import Derived.LoopIn
import Derived.Test.YtgkddegaiaeckaaDoorRows
import Derived.Test.YtgkddegaiaeckaaDoorMem
namespace Go.Proofs.YtgkddegaiaeckaaDoor
open Go.RowKit Go.Shelf

attribute [local go_sem] Oper.semAt_some

/-- What has come when k rounds are over. -/
def upto {α : Type} (f : Nat → α) (k : Nat) : List α := (List.range k).map f
theorem upto_succ {α : Type} (f : Nat → α) (k : Nat) : upto f (k + 1) = upto f k ++ [f k] := by simp [upto, List.range_succ]
theorem upto_length {α : Type} (f : Nat → α) (k : Nat) : (upto f k).length = k := by simp [upto]

/-- The pairs that slices.Backward hands out: the k-th. -/
def backAt (bs : List UInt8) (k : Nat) : Nat × UInt8 := (bs.length - 1 - k, bs.getD (bs.length - 1 - k) 0)
/-- The bytes lie below n₀. -/
def RowN (n₀ : Nat) (w : World) (a : Option Addr) (bs : List UInt8) : Prop :=
  ∀ i, i < bs.length → ∃ b off, a = some ⟨b, off, none⟩ ∧ b < n₀ ∧ w.cell? ⟨b, off + i, none⟩ = some (.int .u8 ((bs.getD i 0).toNat : Int))
theorem RowB.rowN {w : World} {a : Option Addr} {bs : List UInt8} (h : RowB w a bs) : RowN w.heap.size w a bs := by
  intro i hi
  obtain ⟨b, off, rfl, hc⟩ := h i hi
  exact ⟨b, off, rfl, World.block_lt_of_cell? w _ hc, hc⟩
theorem RowN.below {n₀ : Nat} {A B : World} (h : Below n₀ A B) {a : Option Addr} {bs : List UInt8} (hr : RowN n₀ A a bs) : RowN n₀ B a bs := by
  intro i hi
  obtain ⟨b, off, rfl, hb, hc⟩ := hr i hi
  exact ⟨b, off, rfl, hb, (h.cell (p := ⟨b, off + i, none⟩) hb).trans hc⟩

/-- What a round keeps: what lay below n₀, and the iterator's own box. -/
def KeepB (n₀ Bs : Nat) (W W' : World) : Prop := Below n₀ W W' ∧ W'.heap[Bs]? = W.heap[Bs]?
theorem KeepB.refl (n₀ Bs : Nat) (W : World) : KeepB n₀ Bs W W := ⟨Below.refl _ _, rfl⟩
theorem keepB_t {n₀ Bs : Nat} {A B C : World} (h : KeepB n₀ Bs A B) (k : KeepB n₀ Bs B C) : KeepB n₀ Bs A C := ⟨h.1.trans k.1, k.2.trans h.2⟩
theorem keepB_b {n₀ Bs : Nat} {w : World} (hn : n₀ ≤ w.heap.size) (hB : Bs < w.heap.size) (W : World) (l : Nat) (o o' : Obj) (hl : w.heap.size ≤ l) (h : W.heap[l]? = some o) (h1 : o.isCells = false) (h2 : o.isWalk = false) : KeepB n₀ Bs W (W.putObj l o') :=
  ⟨belowK_b hn W l o o' hl h h1 h2, World.putObj_heap_other (by omega)⟩
theorem KeepB.boxed {n₀ Bs : Nat} {W W' : World} {t : TypeId} {v : Value} (h : KeepB n₀ Bs W W') (hb : Boxed W Bs t v) : Boxed W' Bs t v := h.2.trans hb

end Go.Proofs.YtgkddegaiaeckaaDoor
