/- The walks over pad.turned, mac.Make. -/
import Derived.Test.YtfmeheolcibfeaaDoorMacJ
import Derived.Laws.CopyOwn
namespace Go.Proofs.YtfmeheolcibfeaaDoor
open Go.RowKit

theorem xor8 (x y : UInt8) : bits BinOp.xor IntKind.u8 (x.toNat : Int) (y.toNat : Int) = ((x ^^^ y).toNat : Int) := by
  rw [u8_xor_nat _ _ x.toNat_lt y.toNat_lt, UInt8.toNat_xor]
section
variable {P : Program} {o : Oper} {a : Act} {w : World}
theorem yields_load_row (ty : TypeId) (x : Operand) (ho : o.op = .load ty x) (g : Nat) (c : Array Value) (d : TypeDesc)
    (hx : a.eval x = .pointer (some ⟨g, 0, none⟩)) (hg : w.heap[g]? = some (.cells c ty (0, 0))) (hu : P.underlying ty = some d) (hd : (match d with | .struct _ | .array _ _ => true | _ => false) = true) (hi : (P.info? ty).map (·.size) = some c.size) :
    (execOp a.eval o).run P w = .ok (.value (.agg c)) w := by
  unfold execOp
  simp only [ho, hx, Instr.loadAt, Instr.sureAddr, Sem.run_bind, Sem.run_pure, Result.andThen_ok, run_loadVar_row w g ty ty c (0, 0) d hg hu hd hi]
end

/-- A pad turned so far. -/
def xTo (l : List UInt8) (y : UInt8) (k i : Nat) : UInt8 := if i < k then cf l i ^^^ y else cf l i
theorem xTo_zero (l : List UInt8) (y : UInt8) (h : l.length = 64) : tab 64 (xTo l y 0) = l := by
  rw [show tab 64 (xTo l y 0) = tab 64 (cf l) from tab_congr fun i _ => by unfold xTo; rw [if_neg (Nat.not_lt_zero i)], ← h, tab_cf]
theorem xTo_set (l : List UInt8) (y : UInt8) (k : Nat) : (tab 64 (xTo l y k)).set k (cf l k ^^^ y) = tab 64 (xTo l y (k + 1)) := by
  rw [tab_set]
  refine tab_congr fun i _ => ?_
  unfold xTo
  by_cases h : i = k
  · subst h; rw [if_pos rfl, if_pos (Nat.lt_succ_self i)]
  · rw [if_neg h]
    by_cases h2 : i < k
    · rw [if_pos h2, if_pos (by omega)]
    · rw [if_neg h2, if_neg (by omega)]
theorem xTo_end (l : List UInt8) (y : UInt8) (h : l.length = 64) : tab 64 (xTo l y 64) = l.map (· ^^^ y) := by
  refine cf_ext (by rw [tab_length, List.length_map, h]) fun i => ?_
  rw [cf_tab]
  by_cases hi : i < 64
  · rw [if_pos hi]
    unfold xTo
    rw [if_pos hi]
    have h1 : i < l.length := by omega
    have h2 : i < (l.map (· ^^^ y)).length := by rw [List.length_map]; exact h1
    rw [cf_lt h1, cf_lt h2]
    simp
  · rw [if_neg hi, cf_ge (by rw [List.length_map]; omega)]
/-- What is in memory when a pad is turned. -/
structure PadSt (w : World) (l : List UInt8) (W : World) : Prop where
  row : W.heap[w.heap.size]? = some (.cells (cB l).toArray 78 (0, 0))
  bel : Below w.heap.size w W
theorem PadSt.cell {w : World} {l : List UInt8} {W : World} (h : PadSt w l W) {j : Nat} (hj : j < l.length) : W.cell? ⟨w.heap.size, j, none⟩ = some (.int .u8 ((cf l j).toNat : Int)) := by
  rw [cell_of_block h.row, cB_at _ hj]
theorem PadSt.free {w : World} {l : List UInt8} {W : World} (h : PadSt w l W) (j : Nat) : W.frozen? ⟨w.heap.size, j, none⟩ = false := free_of_block h.row _
theorem PadSt.set {w : World} {l : List UInt8} {W : World} (h : PadSt w l W) (n : Nat) (x : UInt8) : PadSt w (l.set n x) (W.setCell ⟨w.heap.size, n, none⟩ (.int .u8 (x.toNat : Int))) := by
  have hu := (Upd.refl h.row).setCell (j := n) (.int .u8 (x.toNat : Int))
  have hu2 := hu.to (show _ = Obj.cells (cB (l.set n x)).toArray 78 (0, 0) from by rw [cB_setA])
  exact ⟨hu2.here, h.bel.trans (hu2.below (Nat.le_refl _))⟩
theorem argB_block {W : World} {g : Nat} {l : List UInt8} {t : TypeId} {c : Nat} (h : W.heap[g]? = some (.cells (cB l).toArray t (0, 0))) (hl : l.length ≤ c) (hc : c ≤ 1000000) : ArgB W (some ⟨g, 0, none⟩) c l := by
  refine ⟨hl, by unfold maxLen; omega, (fun e => by cases e), fun i hi => ⟨g, 0, rfl, ?_⟩⟩
  rw [Nat.zero_add, cell_of_block h, cB_at _ hi]
  rfl

set_option maxHeartbeats 1000000 in
theorem padTurned_any (l : List UInt8) (y : UInt8) (z : Int) (w : World) (hz : z = (y.toNat : Int)) (hl : l.length = 64) :
    Calls Tryd.prog 44 #[.agg (cB l).toArray, .int .u8 z] w fun e w' => e = .returned (.slice (some ⟨w.heap.size, 0, none⟩) 64 64) ∧ ArgB w' (some ⟨w.heap.size, 0, none⟩) 64 (l.map (· ^^^ y)) ∧ Below w.heap.size w w' := by
  subst hz
  have h0 : PadSt w (tab 64 (xTo l y 0)) (w.alloc (.cells (cB l).toArray 78)) := ⟨by rw [xTo_zero l y hl]; exact heap_alloc_new w _, (Below.refl _ w).alloc (Nat.le_refl _) _⟩
  have hend := Lib.hid (xTo_end l y hl)
  have hlen : ∀ k, (tab 64 (xTo l y k)).length = 64 := fun k => tab_length _ _
  replace hl := Lib.hid hl
  replace h0 := Lib.hid h0
  replace hlen := Lib.hid hlen
  generalize (cB l).toArray = C at *
  go_enter Tryd.func44, Tryd.ntmps44
  go_wp2_with fail
  go_loopw [5, 6] (fun _ j wr => ∃ k : Nat, k ≤ 64 ∧ j = .int .i64 k ∧ PadSt w (tab 64 (xTo l y k)) wr)
    (fun _ j _ => 64 - (intOf j).toNat)
  case atStart => exact ⟨0, Nat.zero_le _, rfl, h0.out⟩
  case round =>
    clear h0
    obtain ⟨k, hk, rfl, hP⟩ := hrel
    by_cases hlt : k < 64
    · have hc := hP.cell (j := k) (by rw [hlen.out]; exact hlt)
      have hf := hP.free k
      rw [cf_tab, if_pos hlt, show xTo l y k k = cf l k from by unfold xTo; rw [if_neg (Nat.lt_irrefl k)]] at hc
      have hx := Lib.hid (xor8 (cf l k) y)
      have hS := hP.set k (cf l k ^^^ y)
      rw [xTo_set] at hS
      replace hS := Lib.hid hS
      replace hP := Lib.hid hP
      have hk64 : (k : Int) < 64 := by omega
      generalize cf l k = x at *
      go_wp2_with fail
      refine ⟨⟨k + 1, by omega, by go_num, by rw [hx.out]; exact hS.out⟩, by simp [intOf]; omega⟩
    · obtain rfl : k = 64 := by omega
      have hr := Lib.hid (argB_block hP.row (c := 64) (by rw [hlen.out]; exact Nat.le_refl _) (by omega))
      have hb := Lib.hid hP.bel
      clear hP
      go_wp2_with fail
      go_ret
      rw [← hend.out]
      exact ⟨rfl, hr.out, hb.out⟩

end Go.Proofs.YtfmeheolcibfeaaDoor
