/- The walks over ledger.State's Item and entry. Printed by genitem.py. -/
import Derived.Test.YtpehdoepcpmnbaaDoorF9ModelOfSaid
import Derived.Test.YtpehdoepcpmnbaaDoorF12ModelOfSaid
import Derived.Test.YtpehdoepcpmnbaaDoorF11ModelOfSaid
namespace Go.Proofs.YtpehdoepcpmnbaaDoor
open Go.RowKit
set_option linter.unusedVariables false

theorem It.zeroG : Tryd.zeroCells93 = (default : It).list.toArray := by kernel_rfl
theorem alloc_keep2 {w : World} {b : Nat} {o : Obj} (h : w.heap[b]? = some o) (o' : Obj) : (w.alloc o').heap[b]? = some o :=
  (((Below.refl w.heap.size w).alloc (Nat.le_refl _) o').block b (block_lt h)).trans h
/-- The two boxes of a function on a state: the state itself, and room for the result. -/
theorem two_boxes (w : World) (C D : Array Value) (t u : TypeId) (W : World) (hW : W = (w.alloc (.cells C t)).alloc (.cells D u)) :
    W.heap[w.heap.size]? = some (.cells C t (0, 0)) ∧ W.heap[w.heap.size + 1]? = some (.cells D u (0, 0)) ∧ W.heap.size = w.heap.size + 2 ∧ Below w.heap.size w W := by
  subst hW
  refine ⟨alloc_keep2 (heap_alloc_new w _) _, ?_, by simp, ((Below.refl _ _).alloc (Nat.le_refl _) _).alloc (by simp) _⟩
  have h := heap_alloc_new (w.alloc (.cells C t)) (.cells D u (0, 0))
  rw [World.size_alloc] at h
  exact h

set_option maxRecDepth 100000 in
set_option maxHeartbeats 1000000 in
theorem item_in (va : Value) (m : St) (w : World) (ha : ArgS w va m) (i : Nat) (hi : i < m.its.length) (hl : m.its.length ≤ 1000) :
    Calls Tryd.prog 52 #[va, .int .i64 (i : Int)] w fun x w' => x = .returned (.tuple #[.agg m.its[i].list.toArray, .bool true]) ∧ Below w.heap.size w w' := by
  obtain ⟨⟨an, cn, av, cv, rfl, hN, hN1, hN2, hV, hV1, hV2⟩, okN, okV⟩ := ha
  obtain ⟨b, o, hab, hr⟩ := hN i hi
  have hx := okN _ (List.getElem_mem hi)
  obtain ⟨N, hNl⟩ : ∃ N, N = m.its.length := ⟨_, rfl⟩
  obtain ⟨V, hVl⟩ : ∃ V, V = m.ens.length := ⟨_, rfl⟩
  rw [← hNl, ← hVl]
  rw [← hNl] at hi hl
  have hii : (i : Int) < (N : Int) := by omega
  have hone := It.list_one m.its[i]
  have hlen : m.its[i].list.length = 76 := It.list_length hx
  generalize m.its[i].list = X at *
  subst hab
  obtain ⟨a1, a2, hs2, hB⟩ := two_boxes w #[.slice (some ⟨b, o, none⟩) N cn, .slice av V cv] Tryd.zeroCells93 56 93 _ rfl
  have e10 := cell_of_block a1 0
  have e11 := cell_of_block a1 1
  have hr2 := rangeAt_below hr hB (Nat.le_refl _)
  have hu := Tryd.underlying93
  have iX : (Tryd.prog.info? 93).map (·.size) = some X.length := by rw [hlen]; kernel_rfl
  have iA : (Tryd.prog.info? 93).map (·.size) = some X.toArray.size := by rw [List.size_toArray]; exact iX
  have zA : Tryd.zeroCells93.size = X.toArray.size := Eq.symm (by rw [List.size_toArray, hlen]; kernel_rfl)
  have h1A := Go.Proofs.YtpehdoepcpmnbaaDoor.all_one hone
  obtain ⟨XA, hXA⟩ : ∃ XA, XA = X.toArray := ⟨_, rfl⟩
  rw [← hXA] at iA zA h1A ⊢
  replace hXA := Lib.hid hXA
  replace a2 := Lib.hid a2
  replace hB := Lib.hid hB
  replace hs2 := Lib.hid hs2
  replace hr2 := Lib.hid hr2
  clear hr hN hV hN1 hN2 hV1 hV2 okN okV hx hone hlen a1 hNl hVl
  go_enter Tryd.func52, Tryd.ntmps52
  go_wp2_with (first
    | ((with_reducible show wpList _ _ _ (Oper.mk _ (Op.load 93 (.tmp 19)) _ _ _ _ :: _) _ _); (refine wpList_load_mid rfl 93 (.tmp 19) rfl b (o + i * 76) rfl X _ hr2.out hu rfl iX ?_); rw [← hXA.out])
    | ((with_reducible show wpList _ _ _ (Oper.mk _ (Op.store 93 (.tmp 4) _) _ _ _ _ :: _) _ _); (refine wpList_store_row rfl 93 (.tmp 4) (.tmp 20) rfl (w.heap.size + 1) _ XA rfl rfl a2 iA zA h1A ?_); intro w3 hU3))
  refine ret_cell_tmpB rfl rfl hu rfl iA hU3.out.here ?_
  exact ⟨rfl, hB.out.trans (hU3.out.below (by omega))⟩

set_option maxRecDepth 100000 in
set_option maxHeartbeats 1000000 in
theorem item_out (va : Value) (m : St) (w : World) (ha : ArgS w va m) (i : Int) (hi : ¬ (0 ≤ i ∧ i < m.its.length)) (hl : m.its.length ≤ 1000) :
    Calls Tryd.prog 52 #[va, .int .i64 i] w fun x w' => x = .returned (.tuple #[.agg (default : It).list.toArray, .bool false]) ∧ Below w.heap.size w w' := by
  obtain ⟨⟨an, cn, av, cv, rfl, hN, hN1, hN2, hV, hV1, hV2⟩, okN, okV⟩ := ha
  obtain ⟨N, hNl⟩ : ∃ N, N = m.its.length := ⟨_, rfl⟩
  obtain ⟨V, hVl⟩ : ∃ V, V = m.ens.length := ⟨_, rfl⟩
  rw [← hNl, ← hVl]
  rw [← hNl] at hi hl
  have hneg : i < 0 ∨ (0 ≤ i ∧ (N : Int) ≤ i) := by omega
  obtain ⟨a1, a2, hs2, hB⟩ := two_boxes w #[.slice an N cn, .slice av V cv] Tryd.zeroCells93 56 93 _ rfl
  have e10 := cell_of_block a1 0
  have e11 := cell_of_block a1 1
  have hu := Tryd.underlying93
  have iA : (Tryd.prog.info? 93).map (·.size) = some Tryd.zeroCells93.size := by kernel_rfl
  have h1A : Tryd.zeroCells93.all (·.oneCell') = true := by rw [It.zeroG]; exact Go.Proofs.YtpehdoepcpmnbaaDoor.all_one (It.list_one _)
  have hpost : Hid (∀ W, Below w.heap.size w W → (fun (x : Ending) w' => x = .returned (.tuple #[.agg (default : It).list.toArray, .bool false]) ∧ Below w.heap.size w w') (.returned (.tuple #[.agg Tryd.zeroCells93, .bool false])) W) := Lib.hid (fun W h => ⟨by rw [It.zeroG], h⟩)
  replace a2 := Lib.hid a2
  replace hB := Lib.hid hB
  replace hs2 := Lib.hid hs2
  clear hN hV hN1 hN2 hV1 hV2 okN okV a1 hNl hVl hi
  rcases hneg with hneg | ⟨hneg, hge⟩
  all_goals
    go_enter Tryd.func52, Tryd.ntmps52
    go_wp2_with ((with_reducible show wpList _ _ _ (Oper.mk _ (Op.store 93 (.tmp 4) _) _ _ _ _ :: _) _ _); (refine wpList_store_row rfl 93 (.tmp 4) (.tmp 15) rfl (w.heap.size + 1) _ Tryd.zeroCells93 rfl rfl a2 iA rfl h1A ?_); intro w3 hU3)
    refine ret_cell_tmpB rfl rfl hu rfl iA hU3.out.here ?_
    exact hpost.out _ (hB.out.trans (hU3.out.below (by omega)))

set_option maxRecDepth 100000 in
set_option maxHeartbeats 1000000 in
theorem entry_in (va : Value) (m : St) (w : World) (ha : ArgS w va m) (i : Nat) (hi : i < m.ens.length) (hl : m.ens.length ≤ 1000) :
    Calls Tryd.prog 54 #[va, .int .i64 (i : Int)] w fun x w' => x = .returned (.tuple #[.agg m.ens[i].list.toArray, .bool true]) ∧ Below w.heap.size w w' := by
  obtain ⟨⟨an, cn, av, cv, rfl, hN, hN1, hN2, hV, hV1, hV2⟩, okN, okV⟩ := ha
  obtain ⟨b, o, hab, hr⟩ := hV i hi
  have hx := okV _ (List.getElem_mem hi)
  obtain ⟨N, hNl⟩ : ∃ N, N = m.its.length := ⟨_, rfl⟩
  obtain ⟨V, hVl⟩ : ∃ V, V = m.ens.length := ⟨_, rfl⟩
  rw [← hNl, ← hVl]
  rw [← hVl] at hi hl
  have hii : (i : Int) < (V : Int) := by omega
  have hone := En.list_one m.ens[i]
  have hlen : m.ens[i].list.length = 7 := rfl
  generalize m.ens[i].list = X at *
  subst hab
  obtain ⟨a1, a2, hs2, hB⟩ := two_boxes w #[.slice an N cn, .slice (some ⟨b, o, none⟩) V cv] #[.int .i64 0, .int .i64 0, .int .i64 0, .int .i64 0, .int .i64 0, .int .i64 0, .int .i64 0] 56 95 _ rfl
  have e10 := cell_of_block a1 0
  have e11 := cell_of_block a1 1
  have hr2 := rangeAt_below hr hB (Nat.le_refl _)
  have hu := Tryd.underlying95
  have iX : (Tryd.prog.info? 95).map (·.size) = some X.length := by rw [hlen]; kernel_rfl
  have iA : (Tryd.prog.info? 95).map (·.size) = some X.toArray.size := by rw [List.size_toArray]; exact iX
  have zA : (#[.int .i64 0, .int .i64 0, .int .i64 0, .int .i64 0, .int .i64 0, .int .i64 0, .int .i64 0] : Array Value).size = X.toArray.size := Eq.symm (by rw [List.size_toArray, hlen]; kernel_rfl)
  have h1A := Go.Proofs.YtpehdoepcpmnbaaDoor.all_one hone
  obtain ⟨XA, hXA⟩ : ∃ XA, XA = X.toArray := ⟨_, rfl⟩
  rw [← hXA] at iA zA h1A ⊢
  replace hXA := Lib.hid hXA
  replace a2 := Lib.hid a2
  replace hB := Lib.hid hB
  replace hs2 := Lib.hid hs2
  replace hr2 := Lib.hid hr2
  clear hr hN hV hN1 hN2 hV1 hV2 okN okV hx hone hlen a1 hNl hVl
  go_enter Tryd.func54, Tryd.ntmps54
  go_wp2_with (first
    | ((with_reducible show wpList _ _ _ (Oper.mk _ (Op.load 95 (.tmp 19)) _ _ _ _ :: _) _ _); (refine wpList_load_mid rfl 95 (.tmp 19) rfl b (o + i * 7) rfl X _ hr2.out hu rfl iX ?_); rw [← hXA.out])
    | ((with_reducible show wpList _ _ _ (Oper.mk _ (Op.store 95 (.tmp 4) _) _ _ _ _ :: _) _ _); (refine wpList_store_row rfl 95 (.tmp 4) (.tmp 20) rfl (w.heap.size + 1) _ XA rfl rfl a2 iA zA h1A ?_); intro w3 hU3))
  refine ret_cell_tmpB rfl rfl hu rfl iA hU3.out.here ?_
  exact ⟨rfl, hB.out.trans (hU3.out.below (by omega))⟩

set_option maxRecDepth 100000 in
set_option maxHeartbeats 1000000 in
theorem entry_out (va : Value) (m : St) (w : World) (ha : ArgS w va m) (i : Int) (hi : ¬ (0 ≤ i ∧ i < m.ens.length)) (hl : m.ens.length ≤ 1000) :
    Calls Tryd.prog 54 #[va, .int .i64 i] w fun x w' => x = .returned (.tuple #[.agg (default : En).list.toArray, .bool false]) ∧ Below w.heap.size w w' := by
  obtain ⟨⟨an, cn, av, cv, rfl, hN, hN1, hN2, hV, hV1, hV2⟩, okN, okV⟩ := ha
  obtain ⟨N, hNl⟩ : ∃ N, N = m.its.length := ⟨_, rfl⟩
  obtain ⟨V, hVl⟩ : ∃ V, V = m.ens.length := ⟨_, rfl⟩
  rw [← hNl, ← hVl]
  rw [← hVl] at hi hl
  have hneg : i < 0 ∨ (0 ≤ i ∧ (V : Int) ≤ i) := by omega
  obtain ⟨a1, a2, hs2, hB⟩ := two_boxes w #[.slice an N cn, .slice av V cv] #[.int .i64 0, .int .i64 0, .int .i64 0, .int .i64 0, .int .i64 0, .int .i64 0, .int .i64 0] 56 95 _ rfl
  have e10 := cell_of_block a1 0
  have e11 := cell_of_block a1 1
  have hu := Tryd.underlying95
  have iA : (Tryd.prog.info? 95).map (·.size) = some (#[.int .i64 0, .int .i64 0, .int .i64 0, .int .i64 0, .int .i64 0, .int .i64 0, .int .i64 0] : Array Value).size := by kernel_rfl
  have h1A : (#[.int .i64 0, .int .i64 0, .int .i64 0, .int .i64 0, .int .i64 0, .int .i64 0, .int .i64 0] : Array Value).all (·.oneCell') = true := Go.Proofs.YtpehdoepcpmnbaaDoor.all_one (En.list_one (default : En))
  have hpost : Hid (∀ W, Below w.heap.size w W → (fun (x : Ending) w' => x = .returned (.tuple #[.agg (default : En).list.toArray, .bool false]) ∧ Below w.heap.size w w') (.returned (.tuple #[.agg #[.int .i64 0, .int .i64 0, .int .i64 0, .int .i64 0, .int .i64 0, .int .i64 0, .int .i64 0], .bool false])) W) := Lib.hid (fun W h => ⟨rfl, h⟩)
  replace a2 := Lib.hid a2
  replace hB := Lib.hid hB
  replace hs2 := Lib.hid hs2
  clear hN hV hN1 hN2 hV1 hV2 okN okV a1 hNl hVl hi
  rcases hneg with hneg | ⟨hneg, hge⟩
  all_goals
    go_enter Tryd.func54, Tryd.ntmps54
    go_wp2_with ((with_reducible show wpList _ _ _ (Oper.mk _ (Op.store 95 (.tmp 4) _) _ _ _ _ :: _) _ _); (refine wpList_store_row rfl 95 (.tmp 4) (.tmp 15) rfl (w.heap.size + 1) _ #[.int .i64 0, .int .i64 0, .int .i64 0, .int .i64 0, .int .i64 0, .int .i64 0, .int .i64 0] rfl rfl a2 iA rfl h1A ?_); intro w3 hU3)
    refine ret_cell_tmpB rfl rfl hu rfl iA hU3.out.here ?_
    exact hpost.out _ (hB.out.trans (hU3.out.below (by omega)))

end Go.Proofs.YtpehdoepcpmnbaaDoor
