/- slices.Backward over the writes that wait: a range over a function, whose elements are structs of 65 cells. -/
import Derived.RangeFuncBox
import Derived.RangeFuncLeaves
import Derived.RangeFuncCalls
import Derived.RangeFuncNested
import Derived.Shelf.Abstract
import Derived.OwnWalkIn
import Derived.TacticsInMore
import Derived.LoopNIn
import Derived.LoopIn
import Derived.Test.YtdgilgnaoifpcaaDoorStateD
namespace Go.Proofs.YtdgilgnaoifpcaaDoor
open Go.RowKit Go.Shelf

attribute [local go_sem] Oper.semAt_some

section
variable {F : Fence} {n : Nat} {P : Program} {w : World} {ops : Array Oper} {rest : List Oper} {o : Oper} {a : Act} {Q : Exit → Act → World → Prop}
/-- A struct out of the middle of a block, inside a fence. -/
theorem wpListIn_load_mid (hgd : o.guard = none) (ty : TypeId) (x : Operand) (ho : o.op = .load ty x) (b off : Nat) (hx : a.eval x = .pointer (some ⟨b, off, none⟩)) (cs : List Value) (d : TypeDesc) (hc : w.rangeAt b off cs)
    (hu : P.underlying ty = some d) (hd : d.isRow = true) (hi : (P.info? ty).map (·.size) = some cs.length) (h : wpListIn F n P ops Q rest (a.put o.dst (.agg cs.toArray)) w) : wpListIn F n P ops Q (o :: rest) a w := by
  refine wpListIn_plain hgd fun K hK => ?_
  unfold Oper.wpIn
  refine ⟨by simp [Oper.about, ho], ?_⟩
  rw [Oper.semAt_plain F _ _ (by rw [ho]; intro c hc'; cases hc')]
  unfold execOp
  simp only [ho, hx, Instr.loadAt, Instr.sureAddr, Sem.run_bind, Sem.run_pure, Result.andThen_ok, run_loadVar_mid w b off ty cs d hc hu hd hi]
  exact hK _ _ h
/-- A whole struct or array into a block that is known, inside a fence. -/
theorem wpListIn_store_rowW (hgd : o.guard = none) (ty : TypeId) (x y : Operand) (ho : o.op = .store ty x y) (g : Nat) (c c' : Array Value)
    (hx : a.eval x = .pointer (some ⟨g, 0, none⟩)) (hy : a.eval y = .agg c') (hg : Hid (w.heap[g]? = some (.cells c ty (0, 0)))) (hi : (P.info? ty).map (·.size) = some c'.size) (hs : c.size = c'.size) (h1 : c'.all (·.oneCell') = true)
    (h : ∀ w', Hid (Upd g (.cells c' ty (0, 0)) w w') → wpListIn F n P ops Q rest (a.put o.dst undef) w') : wpListIn F n P ops Q (o :: rest) a w := by
  refine wpListIn_plain hgd fun K hK => ?_
  have h2 := hK _ _ (h _ (Lib.hid (Upd.setRow (cs := c') hg.out)))
  unfold Oper.wpIn
  refine ⟨by simp [Oper.about, ho], ?_⟩
  rw [Oper.semAt_plain F _ _ (by rw [ho]; intro c hc'; cases hc')]
  unfold execOp
  simp only [ho, hx, hy, Instr.storeAt, Instr.sureAddr, Sem.run_bind, Sem.run_pure, Result.andThen_ok, run_storeVar_row w g ty ty c c' hg.out hi hs h1]
  exact h2
end

def uptoW {α : Type} (f : Nat → α) (k : Nat) : List α := (List.range k).map f
theorem uptoW_succ {α : Type} (f : Nat → α) (k : Nat) : uptoW f (k + 1) = uptoW f k ++ [f k] := by simp [uptoW, List.range_succ]
theorem uptoW_length {α : Type} (f : Nat → α) (k : Nat) : (uptoW f k).length = k := by simp [uptoW]
/-- 64 bytes. -/
def fix64 (l : List UInt8) : List UInt8 := (l ++ zSec).take 64
theorem fix64_len (l : List UInt8) : (fix64 l).length = 64 := by simp [fix64, zSec]
theorem fix64_eq {l : List UInt8} (h : l.length = 64) : fix64 l = l := by unfold fix64; rw [← h, List.take_left]
/-- A write as a struct. -/
def wR (p : Int × List UInt8) : Array Value := #[Value.int .i64 p.1] ++ (cB (fix64 p.2)).toArray
theorem wR_list (p : Int × List UInt8) : (wR p).toList = .int .i64 p.1 :: cB (fix64 p.2) := by simp [wR]
theorem wR_size (p : Int × List UInt8) : (wR p).size = 65 := by simp [wR, cB_length, fix64_len]
theorem wR_one (p : Int × List UInt8) : (wR p).all (·.oneCell') = true := by
  rw [Array.all_eq_true']
  intro u hu
  have hu := Array.mem_toList_iff.2 hu
  rw [wR_list] at hu
  rcases List.mem_cons.1 hu with rfl | hu
  · rfl
  · exact cB_one _ u hu
def wEnc (x : Nat × (Int × List UInt8)) : Array Value := #[.int .i64 (x.1 : Int), .agg (wR x.2)]
def backWAt (ws : List (Int × List UInt8)) (k : Nat) : Nat × (Int × List UInt8) := (ws.length - 1 - k, ws.getD (ws.length - 1 - k) (0, []))
/-- The writes lie below n₀. -/
def RowNW (n₀ : Nat) (w : World) (a : Option Addr) (ws : List (Int × List UInt8)) : Prop :=
  ∀ i, i < ws.length → ∃ g, a = some ⟨g, 0, none⟩ ∧ g < n₀ ∧ (ws.getD i (0, [])).2.length = 64 ∧ w.rangeAt g (i * 65) (wR (ws.getD i (0, []))).toList
theorem RowNW.below {n₀ : Nat} {A B : World} (h : Below n₀ A B) {a : Option Addr} {ws : List (Int × List UInt8)} (hr : RowNW n₀ A a ws) : RowNW n₀ B a ws := by
  intro i hi
  obtain ⟨g, rfl, hg, hl, hc⟩ := hr i hi
  exact ⟨g, rfl, hg, hl, fun j v hv => (h.cell (p := ⟨g, i * 65 + j, none⟩) hg).trans (hc j v hv)⟩
def KeepW (n₀ Bs : Nat) (W W' : World) : Prop := Below n₀ W W' ∧ W'.heap[Bs]? = W.heap[Bs]?
theorem KeepW.refl (n₀ Bs : Nat) (W : World) : KeepW n₀ Bs W W := ⟨Below.refl _ _, rfl⟩
theorem keepW_t {n₀ Bs : Nat} {A B C : World} (h : KeepW n₀ Bs A B) (k : KeepW n₀ Bs B C) : KeepW n₀ Bs A C := ⟨h.1.trans k.1, k.2.trans h.2⟩
theorem keepW_b {n₀ Bs : Nat} {w : World} (hn : n₀ ≤ w.heap.size) (hB : Bs < w.heap.size) (W : World) (l : Nat) (o o' : Obj) (hl : w.heap.size ≤ l) (h : W.heap[l]? = some o) (h1 : o.isCells = false) (h2 : o.isWalk = false) : KeepW n₀ Bs W (W.putObj l o') :=
  ⟨belowK_b hn W l o o' hl h h1 h2, World.putObj_heap_other (by omega)⟩
theorem KeepW.boxed {n₀ Bs : Nat} {W W' : World} {t : TypeId} {v : Value} (h : KeepW n₀ Bs W W') (hb : Boxed W Bs t v) : Boxed W' Bs t v := h.2.trans hb

set_option maxRecDepth 100000 in
set_option maxHeartbeats 2000000 in
theorem backW1_in (F : Fence) (n : Nat) (h7 : F.fn 35) (hro : F.round = none) (hn : 1 ≤ n) (l Bs n₀ : Nat) (a : Option Addr) (cap : Nat) (ws : List (Int × List UInt8)) (hreach : ws.length ≤ 1000000) (J Jx : List (Nat × (Int × List UInt8)) → World → Prop)
    (hY : ∀ pre x W, J pre W → pre.length < ws.length → YieldAt F (n - 1) Tryd.prog l (wEnc x) W fun e W' =>
      (e = .returned (.bool true) ∧ J (pre ++ [x]) W' ∧ KeepW n₀ Bs W W') ∨ (e = .returned (.bool false) ∧ Jx (pre ++ [x]) W'))
    (W : World) (hBs : Boxed W Bs 57 (.slice a ws.length cap)) (hc : RowNW n₀ W a ws) (h0 : J [] W) :
    CallsIn F n Tryd.prog 35 #[.func (.yield l) #[] #[], .pointer (some ⟨Bs, 0, none⟩)] W fun e W' => (∃ v, e = .returned v) ∧
      ((∃ ys, ys = uptoW (backWAt ws) ws.length ∧ J ys W') ∨ (∃ pre, (∃ k, k ≤ ws.length ∧ pre = uptoW (backWAt ws) k) ∧ Jx pre W')) := by
  refine callsIn_of_wp Tryd.func35 rfl h7 ?_ hro
  simp only [Tryd.ntmps35, List.size_toArray, List.length_cons, List.length_nil, Nat.reduceAdd, Nat.reduceSub, Array.replicate_succ, Array.replicate_zero, List.push_toArray, List.append_toArray, List.nil_append, List.cons_append]
  replace hc := Lib.hid hc
  have hBc := hBs.cell
  have huW : Tryd.prog.underlying 64 = some _ := Tryd.underlying64
  gi_wp2
  gi_loopw [3] (fun i wr => ∃ k m : Nat, k + m = ws.length ∧ i = .int .i64 ((m : Int) - 1) ∧ J (uptoW (backWAt ws) k) wr ∧ KeepW n₀ Bs W wr)
    (fun i _ => (intOf i + 1).toNat)
  case atStart => exact ⟨0, ws.length, by omega, rfl, h0, KeepW.refl _ _ _⟩
  case round =>
    obtain ⟨k, m, hk, rfl, hJs, hnx⟩ := hrel
    have hBx := (hnx.boxed hBs).cell
    cases m with
    | succ m =>
      obtain ⟨g, rfl, hb, _, hcx⟩ := (hc.out.below hnx.1) m (by omega)
      obtain ⟨fn, tmps, assign, body, hy, hR⟩ := hY _ (m, ws.getD m (0, [])) wr hJs (by rw [uptoW_length]; omega)
      have hback : backWAt ws k = (m, ws.getD m (0, [])) := by unfold backWAt; rw [show ws.length - 1 - k = m from by omega]
      replace hback := Lib.hid hback
      dsimp only [wEnc] at hy
      have hm1 : ((m + 1 : Nat) : Int) - 1 = (m : Int) := by omega
      rw [hm1]
      clear hm1
      generalize ws.getD m (0, []) = x at *
      have hszL : (Tryd.prog.info? 64).map (·.size) = some (wR x).toList.length := by rw [Array.length_toList, wR_size]; kernel_rfl
      obtain ⟨X, hX⟩ : ∃ X, X = wR x := ⟨_, rfl⟩
      rw [← hX] at hszL hcx hy
      replace hcx := Lib.hid hcx
      replace hX := Lib.hid hX
      replace hszL := Lib.hid hszL
      gi_wp2_with (refine wpListIn_load_mid rfl 64 (.tmp 15) rfl g _ rfl X.toList _ hcx.out huW rfl hszL.out ?_; rw [Array.toArray_toList])
      refine hR.mono ?_
      rintro e W3 (⟨rfl, hJ3, hk3⟩ | ⟨rfl, hJx3⟩)
      · gi_wp2
        go_roundw
        case rel => exact ⟨k + 1, m, by omega, by go_num, by rw [uptoW_succ, hback.out]; exact hJ3, keepW_t hnx hk3⟩
        case measure => simp [intOf]
      · gi_wp2
        refine bodyPost_ret (results_none rfl _ _ _) rfl ?_
        exact ⟨⟨_, rfl⟩, .inr ⟨_, ⟨k + 1, by omega, by rw [uptoW_succ, hback.out]⟩, hJx3⟩⟩
    | zero =>
      obtain rfl : k = ws.length := by omega
      gi_wp2
      go_end0
      exact ⟨⟨_, rfl⟩, .inl ⟨_, rfl, hJs⟩⟩

set_option maxHeartbeats 1000000 in
theorem backW_in (F : Fence) (n : Nat) (h5 : F.fn 24) (hro : F.round = none) (a : Option Addr) (len cap : Nat) (w : World) :
    CallsIn F n Tryd.prog 24 #[.slice a len cap] w fun e w' => e = .returned (.func (.func 35) #[] #[.pointer (some ⟨w.heap.size, 0, none⟩)]) ∧ w' = w.alloc (.cells #[.slice a len cap] 57) := by
  refine callsIn_of_wp Tryd.func24 rfl h5 ?_ hro
  simp only [Tryd.ntmps24, List.size_toArray, List.length_cons, List.length_nil, Nat.reduceAdd, Nat.reduceSub, Array.replicate_succ, Array.replicate_zero, List.push_toArray, List.append_toArray, List.nil_append, List.cons_append]
  gi_wp2
  go_ret
  exact ⟨rfl, rfl⟩

theorem backW_stops (F : Fence) (n : Nat) (h8 : F.fn 35) (hro : F.round = none) (hn : 1 ≤ n) (Bs n₀ : Nat) (a : Option Addr) (cap : Nat) (ws : List (Int × List UInt8)) (hreach : ws.length ≤ 1000000) (w : World) (hn₀ : n₀ ≤ w.heap.size)
    (hc : Boxed w Bs 57 (.slice a ws.length cap)) (hI : RowNW n₀ w a ws) :
    SeqStopsK F n Tryd.prog 35 #[.pointer (some ⟨Bs, 0, none⟩)] wEnc (KeepW n₀ Bs) (fun ys => ys = uptoW (backWAt ws) ws.length)
      (fun pre => ∃ k, k ≤ ws.length ∧ pre = uptoW (backWAt ws) k) ws.length w := fun l J Jx W hW _ _ hY h0 =>
  backW1_in F n h8 hro hn l Bs n₀ a cap ws hreach J Jx hY W ((hW.block Bs hc.lt).trans hc) (hI.below (hW.mono hn₀)) h0
end Go.Proofs.YtdgilgnaoifpcaaDoor
