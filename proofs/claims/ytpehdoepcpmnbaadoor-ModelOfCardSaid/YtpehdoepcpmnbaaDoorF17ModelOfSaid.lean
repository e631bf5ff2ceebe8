/- record.bare for records of any but the first kind. -/
import Derived.Test.YtpehdoepcpmnbaaDoorF16ModelOfSaid
namespace Go.Proofs.YtpehdoepcpmnbaaDoor
open Go.RowKit

theorem all_set (R : Array Value) (i : Nat) (v : Value) (h : (R.all (·.oneCell')) = true) (hv : v.oneCell' = true) : ((R.setIfInBounds i v).all (·.oneCell')) = true := by
  rw [Array.all_eq_true'] at h ⊢
  intro x hx
  rcases Array.mem_or_eq_of_mem_setIfInBounds hx with hx | rfl
  · exact h x hx
  · exact hv
theorem all_set0 (R : Array Value) (i : Nat) (k : IntKind) (z : Int) (h : (R.all (·.oneCell')) = true) : ((R.setIfInBounds i (.int k z)).all (·.oneCell')) = true := all_set R i _ h rfl

set_option maxRecDepth 100000 in
set_option maxHeartbeats 1000000 in
theorem bare_two (R : Array Value)  (hs : R.size = 78) (r0 : ∀ h, R[0]'h = .int .i64 2) (hone : (R.all (·.oneCell')) = true) (w : World) :
    Calls Tryd.prog 49 #[.agg R] w fun e w' => e = .returned (.agg ((((((R.setIfInBounds 1 (Value.int IntKind.i64 0)).setIfInBounds 77 (Value.int IntKind.i64 0)).setIfInBounds 74 (Value.int IntKind.i64 0)).setIfInBounds 75 (Value.int IntKind.i64 0)).setIfInBounds 2 (Value.int IntKind.i64 0)).setIfInBounds 0 (Value.int IntKind.i64 0))) ∧ Below w.heap.size w w' := by
  obtain ⟨V, hV⟩ : ∃ V, V = ((((((R.setIfInBounds 1 (Value.int IntKind.i64 0)).setIfInBounds 77 (Value.int IntKind.i64 0)).setIfInBounds 74 (Value.int IntKind.i64 0)).setIfInBounds 75 (Value.int IntKind.i64 0)).setIfInBounds 2 (Value.int IntKind.i64 0)).setIfInBounds 0 (Value.int IntKind.i64 0)) := ⟨_, rfl⟩
  have hVs : V.size = 78 := by rw [hV]; simp [hs]
  have hVo : (V.all (·.oneCell')) = true := by rw [hV]; (repeat with_reducible refine all_set0 _ _ _ _ ?_); with_reducible exact hone
  rw [← hV]
  have hld := Lib.hid (show ((w.alloc (Obj.cells ((((((R.setIfInBounds 1 (Value.int IntKind.i64 0)).setIfInBounds 77 (Value.int IntKind.i64 0)).setIfInBounds 74 (Value.int IntKind.i64 0)).setIfInBounds 75 (Value.int IntKind.i64 0)).setIfInBounds 2 (Value.int IntKind.i64 0)).setIfInBounds 0 (Value.int IntKind.i64 0)) 59)).alloc (Obj.cells Tryd.zeroCells59 59)).heap[w.heap.size]? = some (.cells V 59 (0, 0)) from by
    rw [heapA9, if_neg (by simp), heapA9, if_pos rfl, hV])
  have hst := Lib.hid (show ((w.alloc (Obj.cells ((((((R.setIfInBounds 1 (Value.int IntKind.i64 0)).setIfInBounds 77 (Value.int IntKind.i64 0)).setIfInBounds 74 (Value.int IntKind.i64 0)).setIfInBounds 75 (Value.int IntKind.i64 0)).setIfInBounds 2 (Value.int IntKind.i64 0)).setIfInBounds 0 (Value.int IntKind.i64 0)) 59)).alloc (Obj.cells Tryd.zeroCells59 59)).heap[w.heap.size + 1]? = some (.cells Tryd.zeroCells59 59 (0, 0)) from by
    rw [heapA9, if_pos (by simp)])
  have hb := Lib.hid (show Below w.heap.size w ((w.alloc (Obj.cells ((((((R.setIfInBounds 1 (Value.int IntKind.i64 0)).setIfInBounds 77 (Value.int IntKind.i64 0)).setIfInBounds 74 (Value.int IntKind.i64 0)).setIfInBounds 75 (Value.int IntKind.i64 0)).setIfInBounds 2 (Value.int IntKind.i64 0)).setIfInBounds 0 (Value.int IntKind.i64 0)) 59)).alloc (Obj.cells Tryd.zeroCells59 59)) from ((Below.refl _ _).alloc (Nat.le_refl _) _).alloc (by simp) _)
  have hzc := Tryd.underlying59
  have hsz : (Tryd.prog.info? 59).map (·.size) = some V.size := by rw [hVs]; kernel_rfl
  have hzz : (Tryd.zeroCells59).size = V.size := by rw [hVs]; kernel_rfl
  clear hVs
  replace hV := Lib.hid hV
  go_enter Tryd.func49, Tryd.ntmps49
  go_wp2_with (first | with_reducible refine wpList_load_row rfl 59 (.tmp 1) rfl w.heap.size V _ rfl hld hzc rfl hsz ?_ | with_reducible refine wpList_store_row rfl 59 (.tmp 2) (.tmp 26) rfl (w.heap.size + 1) _ V rfl rfl hst hsz hzz hVo ?_)
  intro w3 hU
  have hb3 := Lib.hid (hb.out.trans (hU.out.below (Nat.le_succ _)))
  have hr3 := Lib.hid hU.out.here
  clear hU hst hld
  go_wp2_with fail
  exact ret_cell_row rfl rfl hzc rfl hsz hr3.out ⟨rfl, hb3.out⟩

set_option maxRecDepth 100000 in
set_option maxHeartbeats 1000000 in
theorem bare_three (R : Array Value)  (hs : R.size = 78) (r0 : ∀ h, R[0]'h = .int .i64 3) (hone : (R.all (·.oneCell')) = true) (w : World) :
    Calls Tryd.prog 49 #[.agg R] w fun e w' => e = .returned (.agg (((((R.setIfInBounds 1 (Value.int IntKind.i64 0)).setIfInBounds 77 (Value.int IntKind.i64 0)).setIfInBounds 76 (Value.int IntKind.i64 0)).setIfInBounds 2 (Value.int IntKind.i64 0)).setIfInBounds 0 (Value.int IntKind.i64 0))) ∧ Below w.heap.size w w' := by
  obtain ⟨V, hV⟩ : ∃ V, V = (((((R.setIfInBounds 1 (Value.int IntKind.i64 0)).setIfInBounds 77 (Value.int IntKind.i64 0)).setIfInBounds 76 (Value.int IntKind.i64 0)).setIfInBounds 2 (Value.int IntKind.i64 0)).setIfInBounds 0 (Value.int IntKind.i64 0)) := ⟨_, rfl⟩
  have hVs : V.size = 78 := by rw [hV]; simp [hs]
  have hVo : (V.all (·.oneCell')) = true := by rw [hV]; (repeat with_reducible refine all_set0 _ _ _ _ ?_); with_reducible exact hone
  rw [← hV]
  have hld := Lib.hid (show ((w.alloc (Obj.cells (((((R.setIfInBounds 1 (Value.int IntKind.i64 0)).setIfInBounds 77 (Value.int IntKind.i64 0)).setIfInBounds 76 (Value.int IntKind.i64 0)).setIfInBounds 2 (Value.int IntKind.i64 0)).setIfInBounds 0 (Value.int IntKind.i64 0)) 59)).alloc (Obj.cells Tryd.zeroCells59 59)).heap[w.heap.size]? = some (.cells V 59 (0, 0)) from by
    rw [heapA9, if_neg (by simp), heapA9, if_pos rfl, hV])
  have hst := Lib.hid (show ((w.alloc (Obj.cells (((((R.setIfInBounds 1 (Value.int IntKind.i64 0)).setIfInBounds 77 (Value.int IntKind.i64 0)).setIfInBounds 76 (Value.int IntKind.i64 0)).setIfInBounds 2 (Value.int IntKind.i64 0)).setIfInBounds 0 (Value.int IntKind.i64 0)) 59)).alloc (Obj.cells Tryd.zeroCells59 59)).heap[w.heap.size + 1]? = some (.cells Tryd.zeroCells59 59 (0, 0)) from by
    rw [heapA9, if_pos (by simp)])
  have hb := Lib.hid (show Below w.heap.size w ((w.alloc (Obj.cells (((((R.setIfInBounds 1 (Value.int IntKind.i64 0)).setIfInBounds 77 (Value.int IntKind.i64 0)).setIfInBounds 76 (Value.int IntKind.i64 0)).setIfInBounds 2 (Value.int IntKind.i64 0)).setIfInBounds 0 (Value.int IntKind.i64 0)) 59)).alloc (Obj.cells Tryd.zeroCells59 59)) from ((Below.refl _ _).alloc (Nat.le_refl _) _).alloc (by simp) _)
  have hzc := Tryd.underlying59
  have hsz : (Tryd.prog.info? 59).map (·.size) = some V.size := by rw [hVs]; kernel_rfl
  have hzz : (Tryd.zeroCells59).size = V.size := by rw [hVs]; kernel_rfl
  clear hVs
  replace hV := Lib.hid hV
  go_enter Tryd.func49, Tryd.ntmps49
  go_wp2_with (first | with_reducible refine wpList_load_row rfl 59 (.tmp 1) rfl w.heap.size V _ rfl hld hzc rfl hsz ?_ | with_reducible refine wpList_store_row rfl 59 (.tmp 2) (.tmp 26) rfl (w.heap.size + 1) _ V rfl rfl hst hsz hzz hVo ?_)
  intro w3 hU
  have hb3 := Lib.hid (hb.out.trans (hU.out.below (Nat.le_succ _)))
  have hr3 := Lib.hid hU.out.here
  clear hU hst hld
  go_wp2_with fail
  exact ret_cell_row rfl rfl hzc rfl hsz hr3.out ⟨rfl, hb3.out⟩

set_option maxRecDepth 100000 in
set_option maxHeartbeats 1000000 in
theorem bare_other (R : Array Value) (k : Int) (h1 : k ≠ 1) (h2 : k ≠ 2) (h3 : k ≠ 3) (hs : R.size = 78) (r0 : ∀ h, R[0]'h = .int .i64 k) (hone : (R.all (·.oneCell')) = true) (w : World) :
    Calls Tryd.prog 49 #[.agg R] w fun e w' => e = .returned (.agg (((R.setIfInBounds 1 (Value.int IntKind.i64 0)).setIfInBounds 77 (Value.int IntKind.i64 0)).setIfInBounds 0 (Value.int IntKind.i64 0))) ∧ Below w.heap.size w w' := by
  have e1 : (k == 1) = false := by simpa using h1
  have e2 : (k == 2) = false := by simpa using h2
  have e3 : (k == 3) = false := by simpa using h3
  clear h1 h2 h3
  obtain ⟨V, hV⟩ : ∃ V, V = (((R.setIfInBounds 1 (Value.int IntKind.i64 0)).setIfInBounds 77 (Value.int IntKind.i64 0)).setIfInBounds 0 (Value.int IntKind.i64 0)) := ⟨_, rfl⟩
  have hVs : V.size = 78 := by rw [hV]; simp [hs]
  have hVo : (V.all (·.oneCell')) = true := by rw [hV]; (repeat with_reducible refine all_set0 _ _ _ _ ?_); with_reducible exact hone
  rw [← hV]
  have hld := Lib.hid (show ((w.alloc (Obj.cells (((R.setIfInBounds 1 (Value.int IntKind.i64 0)).setIfInBounds 77 (Value.int IntKind.i64 0)).setIfInBounds 0 (Value.int IntKind.i64 0)) 59)).alloc (Obj.cells Tryd.zeroCells59 59)).heap[w.heap.size]? = some (.cells V 59 (0, 0)) from by
    rw [heapA9, if_neg (by simp), heapA9, if_pos rfl, hV])
  have hst := Lib.hid (show ((w.alloc (Obj.cells (((R.setIfInBounds 1 (Value.int IntKind.i64 0)).setIfInBounds 77 (Value.int IntKind.i64 0)).setIfInBounds 0 (Value.int IntKind.i64 0)) 59)).alloc (Obj.cells Tryd.zeroCells59 59)).heap[w.heap.size + 1]? = some (.cells Tryd.zeroCells59 59 (0, 0)) from by
    rw [heapA9, if_pos (by simp)])
  have hb := Lib.hid (show Below w.heap.size w ((w.alloc (Obj.cells (((R.setIfInBounds 1 (Value.int IntKind.i64 0)).setIfInBounds 77 (Value.int IntKind.i64 0)).setIfInBounds 0 (Value.int IntKind.i64 0)) 59)).alloc (Obj.cells Tryd.zeroCells59 59)) from ((Below.refl _ _).alloc (Nat.le_refl _) _).alloc (by simp) _)
  have hzc := Tryd.underlying59
  have hsz : (Tryd.prog.info? 59).map (·.size) = some V.size := by rw [hVs]; kernel_rfl
  have hzz : (Tryd.zeroCells59).size = V.size := by rw [hVs]; kernel_rfl
  clear hVs
  replace hV := Lib.hid hV
  go_enter Tryd.func49, Tryd.ntmps49
  go_wp2_with (first | with_reducible refine wpList_load_row rfl 59 (.tmp 1) rfl w.heap.size V _ rfl hld hzc rfl hsz ?_ | with_reducible refine wpList_store_row rfl 59 (.tmp 2) (.tmp 26) rfl (w.heap.size + 1) _ V rfl rfl hst hsz hzz hVo ?_)
  intro w3 hU
  have hb3 := Lib.hid (hb.out.trans (hU.out.below (Nat.le_succ _)))
  have hr3 := Lib.hid hU.out.here
  clear hU hst hld
  go_wp2_with fail
  exact ret_cell_row rfl rfl hzc rfl hsz hr3.out ⟨rfl, hb3.out⟩

end Go.Proofs.YtpehdoepcpmnbaaDoor
