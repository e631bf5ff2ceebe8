/- Rec3, RecG. -/
import Derived.Test.YtpehdoepcpmnbaaDoorF15ModelOfSaid
import Derived.Test.YtpehdoepcpmnbaaDoorF5ModelOfSaid
/- record.Check and record.Bytes of the record that alive builds. -/
namespace Go.Proofs.YtpehdoepcpmnbaaDoor
open Go.RowKit

/-- The record of kind k, way y, all else zero. -/
def recV (k y : Int) : Array Value := #[.int .i64 k, .int .i64 0, .int .i64 0, .string ⟨#[]⟩, .int .i64 0, .int .i64 0, .int .i64 0, .int .i64 0, .int .i64 0, .int .i64 0, .int .u8 0, .int .u8 0, .int .u8 0, .int .u8 0, .int .u8 0, .int .u8 0, .int .u8 0, .int .u8 0, .int .u8 0, .int .u8 0, .int .u8 0, .int .u8 0, .int .u8 0, .int .u8 0, .int .u8 0, .int .u8 0, .int .u8 0, .int .u8 0, .int .u8 0, .int .u8 0, .int .u8 0, .int .u8 0, .int .u8 0, .int .u8 0, .int .u8 0, .int .u8 0, .int .u8 0, .int .u8 0, .int .u8 0, .int .u8 0, .int .u8 0, .int .u8 0, .int .u8 0, .int .u8 0, .int .u8 0, .int .u8 0, .int .u8 0, .int .u8 0, .int .u8 0, .int .u8 0, .int .u8 0, .int .u8 0, .int .u8 0, .int .u8 0, .int .u8 0, .int .u8 0, .int .u8 0, .int .u8 0, .int .u8 0, .int .u8 0, .int .u8 0, .int .u8 0, .int .u8 0, .int .u8 0, .int .u8 0, .int .u8 0, .int .u8 0, .int .u8 0, .int .u8 0, .int .u8 0, .int .u8 0, .int .u8 0, .int .u8 0, .int .u8 0, .int .i64 0, .int .i64 0, .int .i64 y, .int .i64 0]
theorem recV_size (k y : Int) : (recV k y).size = 78 := rfl

theorem heapA9 (w : World) (o : Obj) (k : Nat) : (w.alloc o).heap[k]? = if k = w.heap.size then some o else w.heap[k]? := by
  show (w.heap.push o)[k]? = _
  rw [Array.getElem?_push]
theorem within_yes (x lo hi : Int) (h1 : lo ≤ x) (h2 : x ≤ hi) (w : World) : Calls Tryd.prog 47 #[.int .i64 x, .int .i64 lo, .int .i64 hi] w fun e w' => e = .returned (.bool true) ∧ w = w' := by
  go_enter Tryd.func47, Tryd.ntmps47
  go_wp2_with fail
  go_ret
  exact ⟨rfl, rfl⟩

theorem rec_at (k y : Int) : (∀ h, (recV k y)[0]'h = .int .i64 k) ∧ (∀ h, (recV k y)[1]'h = .int .i64 0) ∧ (∀ h, (recV k y)[2]'h = .int .i64 0) ∧ (∀ h, (recV k y)[3]'h = .string ⟨#[]⟩) ∧ (∀ h, (recV k y)[74]'h = .int .i64 0) ∧ (∀ h, (recV k y)[75]'h = .int .i64 0) ∧ (∀ h, (recV k y)[76]'h = .int .i64 y) ∧ (∀ h, (recV k y)[77]'h = .int .i64 0) :=
  ⟨fun _ => rfl, fun _ => rfl, fun _ => rfl, fun _ => rfl, fun _ => rfl, fun _ => rfl, fun _ => rfl, fun _ => rfl⟩

set_option maxRecDepth 100000 in
set_option maxHeartbeats 1000000 in
theorem numbers_rec (w : World) : Calls Tryd.prog 48 #[.agg (recV 3 1)] w fun e w' => e = .returned (.bool true) ∧ Below w.heap.size w w' := by
  have hs := recV_size 3 1
  obtain ⟨r0, r1, r2, r3, r4, r5, r6, r7⟩ := rec_at 3 1
  generalize recV 3 1 = R at *
  have hb := Lib.hid (show Below w.heap.size w (w.alloc (.cells R 59)) from (Below.refl _ _).alloc (Nat.le_refl _) _)
  go_enter Tryd.func48, Tryd.ntmps48
  go_wp2_with fail
  with_reducible refine (within_yes 0 0 1099511627776 (by decide) (by decide) _).mono ?_
  rintro e w1 ⟨rfl, rfl⟩
  go_wp2_with fail
  with_reducible refine (within_yes 0 0 1099511627776 (by decide) (by decide) _).mono ?_
  rintro e w1 ⟨rfl, rfl⟩
  go_wp2_with fail
  with_reducible refine (within_yes 1 1 3 (by decide) (by decide) _).mono ?_
  rintro e w1 ⟨rfl, rfl⟩
  go_wp2_with fail
  with_reducible refine (within_yes 0 0 1099511627776 (by decide) (by decide) _).mono ?_
  rintro e w1 ⟨rfl, rfl⟩
  go_wp2_with fail
  go_ret
  exact ⟨rfl, hb.out⟩

set_option maxRecDepth 100000 in
set_option maxHeartbeats 1000000 in
theorem bare_rec (w : World) : Calls Tryd.prog 49 #[.agg (recV 3 1)] w fun e w' => e = .returned (.agg (recV 0 0)) ∧ Below w.heap.size w w' := by
  have hs := recV_size 3 1
  obtain ⟨r0, r1, r2, r3, r4, r5, r6, r7⟩ := rec_at 3 1
  generalize hR : recV 3 1 = R at *
  replace hR := Lib.hid hR
  have hch : (((((R.setIfInBounds 1 (Value.int IntKind.i64 0)).setIfInBounds 77 (Value.int IntKind.i64 0)).setIfInBounds 76 (Value.int IntKind.i64 0)).setIfInBounds 2 (Value.int IntKind.i64 0)).setIfInBounds 0 (Value.int IntKind.i64 0)) = recV 0 0 := by rw [← hR.out]; rfl
  have hld := Lib.hid (show ((w.alloc (Obj.cells (((((R.setIfInBounds 1 (Value.int IntKind.i64 0)).setIfInBounds 77 (Value.int IntKind.i64 0)).setIfInBounds 76 (Value.int IntKind.i64 0)).setIfInBounds 2 (Value.int IntKind.i64 0)).setIfInBounds 0 (Value.int IntKind.i64 0)) 59)).alloc (Obj.cells Tryd.zeroCells59 59)).heap[w.heap.size]? = some (.cells (recV 0 0) 59 (0, 0)) from by
    rw [heapA9, if_neg (by simp), heapA9, if_pos rfl, hch])
  have hst := Lib.hid (show ((w.alloc (Obj.cells (((((R.setIfInBounds 1 (Value.int IntKind.i64 0)).setIfInBounds 77 (Value.int IntKind.i64 0)).setIfInBounds 76 (Value.int IntKind.i64 0)).setIfInBounds 2 (Value.int IntKind.i64 0)).setIfInBounds 0 (Value.int IntKind.i64 0)) 59)).alloc (Obj.cells Tryd.zeroCells59 59)).heap[w.heap.size + 1]? = some (.cells Tryd.zeroCells59 59 (0, 0)) from by
    rw [heapA9, if_pos (by simp)])
  have hb := Lib.hid (show Below w.heap.size w ((w.alloc (Obj.cells (((((R.setIfInBounds 1 (Value.int IntKind.i64 0)).setIfInBounds 77 (Value.int IntKind.i64 0)).setIfInBounds 76 (Value.int IntKind.i64 0)).setIfInBounds 2 (Value.int IntKind.i64 0)).setIfInBounds 0 (Value.int IntKind.i64 0)) 59)).alloc (Obj.cells Tryd.zeroCells59 59)) from ((Below.refl _ _).alloc (Nat.le_refl _) _).alloc (by simp) _)
  have hzc := Tryd.underlying59
  have hsz : (Tryd.prog.info? 59).map (·.size) = some (recV 0 0).size := by kernel_rfl
  have hzz : (Tryd.zeroCells59).size = (recV 0 0).size := by kernel_rfl
  have hone : ((recV 0 0).all (·.oneCell')) = true := by kernel_rfl
  replace hch := Lib.hid hch
  go_enter Tryd.func49, Tryd.ntmps49
  go_wp2_with (first | with_reducible refine wpList_load_row rfl 59 (.tmp 1) rfl w.heap.size (recV 0 0) _ rfl hld hzc rfl hsz ?_ | with_reducible refine wpList_store_row rfl 59 (.tmp 2) (.tmp 26) rfl (w.heap.size + 1) _ (recV 0 0) rfl rfl hst hsz hzz hone ?_)
  intro w3 hU
  have hb3 := Lib.hid (hb.out.trans (hU.out.below (Nat.le_succ _)))
  have hr3 := Lib.hid hU.out.here
  clear hU hst hld
  go_wp2_with fail
  exact ret_cell_row rfl rfl hzc rfl hsz hr3.out ⟨rfl, hb3.out⟩

set_option maxRecDepth 100000 in
set_option maxHeartbeats 1000000 in
theorem check_rec (w : World) : Calls Tryd.prog 33 #[.agg (recV 3 1)] w fun e w' => e = .returned .nilIface ∧ Below w.heap.size w w' := by
  have hs := recV_size 3 1
  obtain ⟨r0, r1, r2, r3, r4, r5, r6, r7⟩ := rec_at 3 1
  have hnum := Lib.hid (fun w => numbers_rec w)
  have hbare := Lib.hid (fun w => bare_rec w)
  have hne : ∀ W, (binOp .neq 59 (.agg (recV 0 0)) (.agg Tryd.zeroCells59)).run Tryd.prog W = .ok (.bool false) W := fun W => by kernel_rfl
  have hne2 : ∀ W, (Op.equal 59 (.agg (recV 0 0)) (.agg Tryd.zeroCells59)).run Tryd.prog W = .ok true W := fun W => by kernel_rfl
  have hne3 : ∀ W, (Op.equalIn 10000 59 (.agg (recV 0 0)) (.agg Tryd.zeroCells59)).run Tryd.prog W = .ok true W := fun W => by kernel_rfl
  have hsz : (Tryd.prog.info? 59).map (·.size) = some (recV 3 1).size := by kernel_rfl
  generalize hR : recV 3 1 = R at *
  replace hR := Lib.hid hR
  have hrow := Lib.hid (heap_alloc_new w (.cells R 59))
  have hb := Lib.hid (show Below w.heap.size w (w.alloc (.cells R 59)) from (Below.refl _ _).alloc (Nat.le_refl _) _)
  have hzc := Tryd.underlying59
  go_enter Tryd.func33, Tryd.ntmps33
  go_wp2_with fail
  with_reducible refine (within_yes 3 1 4 (by decide) (by decide) _).mono ?_
  rintro e w1 ⟨rfl, rfl⟩
  go_wp2_with (with_reducible refine wpList_load_row rfl 59 (.tmp 1) rfl w.heap.size R _ rfl hrow hzc rfl hsz ?_)
  with_reducible refine (hnum.out _).mono ?_
  rintro e w2 ⟨rfl, hnew⟩
  have hrow2 := Lib.hid ((hnew.block _ (block_lt hrow.out)).trans hrow.out)
  have hb2 := Lib.hid (hb.out.trans (hnew.mono hb.out.size))
  have c0 : w2.cell? ⟨w.heap.size, 0, none⟩ = some (.int .i64 3) := by rw [cell_of_block hrow2.out, ← hR.out]; rfl
  clear hnew hrow hb
  go_wp2_with (with_reducible refine wpList_load_row rfl 59 (.tmp 1) rfl w.heap.size R _ rfl hrow2 hzc rfl hsz ?_)
  with_reducible refine (hbare.out _).mono ?_
  rintro e w3 ⟨rfl, hnew⟩
  have hb3 := Lib.hid (hb2.out.trans (hnew.mono hb2.out.size))
  clear hnew hrow2 hb2 c0
  go_wp2_with fail
  go_ret
  exact ⟨rfl, hb3.out⟩

end Go.Proofs.YtpehdoepcpmnbaaDoor
/- record.within, record.numbers for any record. -/
namespace Go.Proofs.YtpehdoepcpmnbaaDoor
open Go.RowKit

/-- lo ≤ x ≤ hi. -/
def inB (x lo hi : Int) : Bool := decide (lo ≤ x) && decide (x ≤ hi)
theorem within_any (x lo hi : Int) (w : World) : Calls Tryd.prog 47 #[.int .i64 x, .int .i64 lo, .int .i64 hi] w fun e w' => e = .returned (.bool (inB x lo hi)) ∧ w = w' := by
  unfold inB
  cases h1 : decide (lo ≤ x) <;> cases h2 : decide (x ≤ hi)
  all_goals
    go_enter Tryd.func47, Tryd.ntmps47
    go_wp2_with fail
    go_ret
    exact ⟨rfl, rfl⟩
/-- The numbers of a record of kind k (object o, id i, way y, index x, verdict v, tick t) are in their bounds. -/
def numsB (k o i y x v t : Int) : Bool :=
  inB o 0 1099511627776 && inB t 0 1099511627776 && (if k = 2 then inB y 1 2 && inB x 0 1048576 && inB i 0 1099511627776 else if k = 3 then inB v 1 3 && inB i 0 1099511627776 else true)

set_option maxRecDepth 100000 in
set_option maxHeartbeats 2000000 in
theorem numbers_other (R : Array Value) (k o i y x v t : Int) (hs : R.size = 78) (r0 : ∀ h, R[0]'h = .int .i64 k) (r1 : ∀ h, R[1]'h = .int .i64 o) (r7 : ∀ h, R[77]'h = .int .i64 t) (h2 : k ≠ 2) (h3 : k ≠ 3) (w : World) :
    Calls Tryd.prog 48 #[.agg R] w fun e w' => e = .returned (.bool (numsB k o i y x v t)) ∧ Below w.heap.size w w' := by
  have hb := Lib.hid (show Below w.heap.size w (w.alloc (.cells R 59)) from (Below.refl _ _).alloc (Nat.le_refl _) _)
  have e2 : (k == 2) = false := by simpa using h2
  have e3 : (k == 3) = false := by simpa using h3
  have hn : numsB k o i y x v t = (inB o 0 1099511627776 && inB t 0 1099511627776) := by unfold numsB; rw [if_neg h2, if_neg h3, Bool.and_true]
  rw [hn]
  clear hn h2 h3
  go_enter Tryd.func48, Tryd.ntmps48
  go_wp2_with fail
  with_reducible refine (within_any o 0 1099511627776 _).mono ?_
  rintro e w1 ⟨rfl, rfl⟩
  cases h0 : inB o 0 1099511627776
  · replace h0 := Lib.hid h0
    go_wp2_with fail
    go_ret
    exact ⟨by rw [h0.out]; rfl, hb.out⟩
  · replace h0 := Lib.hid h0
    go_wp2_with fail
    with_reducible refine (within_any t 0 1099511627776 _).mono ?_
    rintro e w1 ⟨rfl, rfl⟩
    go_wp2_with fail
    go_ret
    exact ⟨by rw [h0.out, Bool.true_and]; rfl, hb.out⟩

set_option maxRecDepth 100000 in
set_option maxHeartbeats 2000000 in
theorem numbers_three (R : Array Value) (o i y x v t : Int) (hs : R.size = 78) (r0 : ∀ h, R[0]'h = .int .i64 3) (r1 : ∀ h, R[1]'h = .int .i64 o) (r2 : ∀ h, R[2]'h = .int .i64 i) (r6 : ∀ h, R[76]'h = .int .i64 v) (r7 : ∀ h, R[77]'h = .int .i64 t) (w : World) :
    Calls Tryd.prog 48 #[.agg R] w fun e w' => e = .returned (.bool (numsB 3 o i y x v t)) ∧ Below w.heap.size w w' := by
  have hb := Lib.hid (show Below w.heap.size w (w.alloc (.cells R 59)) from (Below.refl _ _).alloc (Nat.le_refl _) _)
  have hn : numsB 3 o i y x v t = (inB o 0 1099511627776 && inB t 0 1099511627776 && (inB v 1 3 && inB i 0 1099511627776)) := rfl
  rw [hn]
  clear hn
  go_enter Tryd.func48, Tryd.ntmps48
  go_wp2_with fail
  with_reducible refine (within_any o 0 1099511627776 _).mono ?_
  rintro e w1 ⟨rfl, rfl⟩
  cases h0 : inB o 0 1099511627776
  · replace h0 := Lib.hid h0
    go_wp2_with fail
    go_ret
    exact ⟨by rw [h0.out]; rfl, hb.out⟩
  · replace h0 := Lib.hid h0
    go_wp2_with fail
    with_reducible refine (within_any t 0 1099511627776 _).mono ?_
    rintro e w1 ⟨rfl, rfl⟩
    cases h1 : inB t 0 1099511627776
    · replace h1 := Lib.hid h1
      go_wp2_with fail
      go_ret
      exact ⟨by rw [h0.out, h1.out]; rfl, hb.out⟩
    · replace h1 := Lib.hid h1
      go_wp2_with fail
      with_reducible refine (within_any v 1 3 _).mono ?_
      rintro e w1 ⟨rfl, rfl⟩
      cases h2 : inB v 1 3
      · replace h2 := Lib.hid h2
        go_wp2_with fail
        go_ret
        exact ⟨by rw [h0.out, h1.out, h2.out]; rfl, hb.out⟩
      · replace h2 := Lib.hid h2
        go_wp2_with fail
        with_reducible refine (within_any i 0 1099511627776 _).mono ?_
        rintro e w1 ⟨rfl, rfl⟩
        go_wp2_with fail
        go_ret
        exact ⟨by rw [h0.out, h1.out, h2.out]; rfl, hb.out⟩

set_option maxRecDepth 100000 in
set_option maxHeartbeats 2000000 in
theorem numbers_two (R : Array Value) (o i y x v t : Int) (hs : R.size = 78) (r0 : ∀ h, R[0]'h = .int .i64 2) (r1 : ∀ h, R[1]'h = .int .i64 o) (r2 : ∀ h, R[2]'h = .int .i64 i) (r4 : ∀ h, R[74]'h = .int .i64 y) (r5 : ∀ h, R[75]'h = .int .i64 x) (r7 : ∀ h, R[77]'h = .int .i64 t) (w : World) :
    Calls Tryd.prog 48 #[.agg R] w fun e w' => e = .returned (.bool (numsB 2 o i y x v t)) ∧ Below w.heap.size w w' := by
  have hb := Lib.hid (show Below w.heap.size w (w.alloc (.cells R 59)) from (Below.refl _ _).alloc (Nat.le_refl _) _)
  have hn : numsB 2 o i y x v t = (inB o 0 1099511627776 && inB t 0 1099511627776 && (inB y 1 2 && inB x 0 1048576 && inB i 0 1099511627776)) := rfl
  rw [hn]
  clear hn
  go_enter Tryd.func48, Tryd.ntmps48
  go_wp2_with fail
  with_reducible refine (within_any o 0 1099511627776 _).mono ?_
  rintro e w1 ⟨rfl, rfl⟩
  cases h0 : inB o 0 1099511627776
  · replace h0 := Lib.hid h0
    go_wp2_with fail
    go_ret
    exact ⟨by rw [h0.out]; rfl, hb.out⟩
  · replace h0 := Lib.hid h0
    go_wp2_with fail
    with_reducible refine (within_any t 0 1099511627776 _).mono ?_
    rintro e w1 ⟨rfl, rfl⟩
    cases h1 : inB t 0 1099511627776
    · replace h1 := Lib.hid h1
      go_wp2_with fail
      go_ret
      exact ⟨by rw [h0.out, h1.out]; rfl, hb.out⟩
    · replace h1 := Lib.hid h1
      go_wp2_with fail
      with_reducible refine (within_any y 1 2 _).mono ?_
      rintro e w1 ⟨rfl, rfl⟩
      cases h2 : inB y 1 2
      · replace h2 := Lib.hid h2
        go_wp2_with fail
        go_ret
        exact ⟨by rw [h0.out, h1.out, h2.out]; rfl, hb.out⟩
      · replace h2 := Lib.hid h2
        go_wp2_with fail
        with_reducible refine (within_any x 0 1048576 _).mono ?_
        rintro e w1 ⟨rfl, rfl⟩
        cases h3 : inB x 0 1048576
        · replace h3 := Lib.hid h3
          go_wp2_with fail
          go_ret
          exact ⟨by rw [h0.out, h1.out, h2.out, h3.out]; rfl, hb.out⟩
        · replace h3 := Lib.hid h3
          go_wp2_with fail
          with_reducible refine (within_any i 0 1099511627776 _).mono ?_
          rintro e w1 ⟨rfl, rfl⟩
          go_wp2_with fail
          go_ret
          exact ⟨by rw [h0.out, h1.out, h2.out, h3.out]; rfl, hb.out⟩

end Go.Proofs.YtpehdoepcpmnbaaDoor
