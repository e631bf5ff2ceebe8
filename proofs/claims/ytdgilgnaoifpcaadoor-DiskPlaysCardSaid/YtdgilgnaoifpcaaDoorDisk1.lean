/- Walks over disk: New, there, deed, Sure; a disk in memory. -/
import Derived.Test.YtdgilgnaoifpcaaDoorSectMap
import Derived.Test.YtdgilgnaoifpcaaDoorSent
import Derived.Test.YtdgilgnaoifpcaaDoorStoreRow
namespace Go.Proofs.YtdgilgnaoifpcaaDoor
open Go.RowKit

/-- Three sentinels of disk. -/
structure DErr (w : World) (e : Nat → Addr) : Prop where
  range : w.cell? ⟨0, 0, none⟩ = some (.iface 96 (.pointer (some (e 0))))
  size : w.cell? ⟨1, 0, none⟩ = some (.iface 96 (.pointer (some (e 1))))
  power : w.cell? ⟨2, 0, none⟩ = some (.iface 96 (.pointer (some (e 2))))
/-- A disk's six cells: its size, the map's block, the writes that wait, armed, left, gone. -/
def dcells (n : Int) (b : Nat) (v : Value) (armed : Bool) (left : Int) (gone : Bool) : Array Value := #[.int .i64 n, .map (some b), v, .bool armed, .int .i64 left, .bool gone]

set_option maxHeartbeats 400000 in
theorem dnew_yes (n : Int) (h1 : 1 ≤ n) (h2 : n ≤ 2048) (w : World) : Calls Tryd.prog 6 #[.int .i64 n] w fun x w' => x = .returned (.tuple #[.pointer (some ⟨w.heap.size + 1, 0, none⟩), .nilIface]) ∧ w' = (w.alloc (.map #[] 0)).alloc (.cells (dcells n w.heap.size (.slice none 0 0) false 0 false) 59) := by
  have hmm := @run_makeMap Tryd.prog
  go_enter Tryd.func6, Tryd.ntmps6
  go_wp2_with fail
  go_ret2
  exact ⟨rfl, rfl⟩
set_option maxHeartbeats 400000 in
theorem dnew_no (n : Int) (h : n < 1 ∨ 2048 < n) (w : World) (e : Nat → Addr) (hE : DErr w e) : Calls Tryd.prog 6 #[.int .i64 n] w fun x w' => x = .returned (.tuple #[.pointer none, .iface 96 (.pointer (some (e 0)))]) ∧ Drawn w w' := by
  have hk := hE.range
  by_cases hn : n < 1
  · go_enter Tryd.func6, Tryd.ntmps6
    go_wp2_with fail
    all_goals (try go_quiet (fail))
    all_goals (try go_wp2_with fail)
    go_ret2
    exact ⟨rfl, _, rfl⟩
  · have hm : 2048 < n := by omega
    clear h
    go_enter Tryd.func6, Tryd.ntmps6
    go_wp2_with fail
    all_goals (try go_quiet (fail))
    all_goals (try go_wp2_with fail)
    go_ret2
    exact ⟨rfl, _, rfl⟩
set_option maxHeartbeats 400000 in
theorem dthere_yes (B : Nat) (n i : Int) (h0 : 0 ≤ i) (h1 : i < n) (w : World) (hc : w.cell? ⟨B, 0, none⟩ = some (.int .i64 n)) : Calls Tryd.prog 21 #[.pointer (some ⟨B, 0, none⟩), .int .i64 i] w fun x w' => x = .returned .nilIface ∧ w = w' := by
  have h2 : ¬ i < 0 := by omega
  have h3 : ¬ n ≤ i := by omega
  go_enter Tryd.func21, Tryd.ntmps21
  go_wp2_with fail
  go_ret
  exact ⟨rfl, rfl⟩
set_option maxHeartbeats 400000 in
theorem dthere_no (B : Nat) (n i : Int) (h : i < 0 ∨ n ≤ i) (w : World) (hc : w.cell? ⟨B, 0, none⟩ = some (.int .i64 n)) (e : Nat → Addr) (hE : DErr w e) : Calls Tryd.prog 21 #[.pointer (some ⟨B, 0, none⟩), .int .i64 i] w fun x w' => x = .returned (.iface 96 (.pointer (some (e 0)))) ∧ w = w' := by
  have hk := hE.range
  by_cases hn : i < 0
  · go_enter Tryd.func21, Tryd.ntmps21
    go_wp2_with fail
    go_ret
    exact ⟨rfl, rfl⟩
  · have hm : n ≤ i := by omega
    clear h
    go_enter Tryd.func21, Tryd.ntmps21
    go_wp2_with fail
    go_ret
    exact ⟨rfl, rfl⟩
end Go.Proofs.YtdgilgnaoifpcaaDoor
