/- The document's Kept, Asked, Judged where an error comes of it. Printed by genmex.py. -/
import Derived.Test.YtndgacjfkoliaaaDoorF25PlaysSaid34
namespace Go.Proofs.YtndgacjfkoliaaaDoor
open Go.RowKit
set_option linter.unusedSimpArgs false
set_option linter.unusedVariables false

set_option maxRecDepth 100000 in
set_option maxHeartbeats 2000000 in
theorem rkept_none (va : Value) (m : Md) (w : World) (ha : ArgM w va m) (l1 : m.ns.length ≤ 1000) (l2 : m.vs.length ≤ 1000) (q : Int) (h1 : q < 0 ∨ (m.ns.length : Int) ≤ q) :
    Calls Tryd.prog 19 #[va, .int .i64 q] w (RKPost m 11 w) := by
  have ha0 := ha
  obtain ⟨⟨an, cn, av, cv, e0, hN, -, -, hV, -, -⟩, okN, okV⟩ := ha
  obtain ⟨N, hNl⟩ : ∃ N, N = m.ns.length := ⟨_, rfl⟩
  obtain ⟨V, hVl⟩ : ∃ V, V = m.vs.length := ⟨_, rfl⟩
  rw [← hNl, ← hVl] at e0
  obtain ⟨CM, hCM⟩ : ∃ CM : Array Value, CM = #[.slice an N cn, .slice av V cv] := ⟨_, rfl⟩
  rw [← hCM] at e0
  subst e0
  obtain ⟨a1, a2, hs2, hB⟩ := boxes2 w CM #[.slice none 0 0, .slice none 0 0] 32 32 _ rfl
  obtain ⟨w2, hw2⟩ : ∃ w2, w2 = (w.alloc (.cells CM 32)).alloc (.cells #[.slice none 0 0, .slice none 0 0] 32) := ⟨_, rfl⟩
  rw [← hw2] at a1 a2 hB
  have e10 : w2.cell? ⟨w.heap.size, 0, none⟩ = some (.slice an N cn) := by rw [cell_of_block a1, hCM]; rfl
  have e11 : w2.cell? ⟨w.heap.size, 1, none⟩ = some (.slice av V cv) := by rw [cell_of_block a1, hCM]; rfl
  have t1 : q < 0 ∨ (¬ q < 0 ∧ (N : Int) ≤ q) := by rw [hNl]; omega
  clear h1
  rcases t1 with t1 | ⟨t0, t1⟩
  all_goals
    have hzA : (Tryd.prog.info? 32).map (·.size) = some CM.size := by rw [hCM]; kernel_rfl
    have h1M : CM.all (·.oneCell') = true := by rw [hCM]; simp [Value.oneCell']
    have hss : (#[.slice none 0 0, .slice none 0 0] : Array Value).size = CM.size := by rw [hCM]; rfl
    have huA := Tryd.underlying32
    have e10x := e10
    rw [hw2] at e10x
    have e11x := e11
    rw [hw2] at e11x
    have hpost : Hid (∀ W, Below w.heap.size w W → RKPost m 11 w (.returned (.tuple #[.agg CM, .int .i64 11])) W) := Lib.hid (fun W h => ⟨_, rfl, ha0.below h (Nat.le_refl _), h⟩)
    replace hNl := Lib.hid hNl
    replace hVl := Lib.hid hVl
    replace hCM := Lib.hid hCM
    replace hw2 := Lib.hid hw2
    replace a1 := Lib.hid a1
    replace a2 := Lib.hid a2
    replace hB := Lib.hid hB
    replace hs2 := Lib.hid hs2
    clear ha0 hN hV okN okV
    go_enter Tryd.func19, Tryd.ntmps19
    go_wp2_with (first
      | ((with_reducible show wpList _ _ _ (Oper.mk _ (Op.load 32 (.tmp 2)) _ _ _ _ :: _) _ _); (try rw [← hw2.out]); refine wpList_load_row rfl 32 (.tmp 2) rfl w.heap.size CM _ rfl a1 huA rfl hzA ?_)
      | ((with_reducible show wpList _ _ _ (Oper.mk _ (Op.store 32 (.tmp 4) _) _ _ _ _ :: _) _ _); (try rw [← hw2.out]); (refine wpList_store_row rfl 32 (.tmp 4) (.tmp 16) rfl (w.heap.size + 1) _ CM rfl rfl a2 hzA hss h1M ?_); intro w9 hU9))
    refine ret_cell_tmpB (c := CM) rfl rfl huA rfl hzA hU9.out.here ?_
    exact hpost.out _ (hB.out.trans (hU9.out.below (by omega)))

set_option maxRecDepth 100000 in
set_option maxHeartbeats 2000000 in
theorem rkept_state (va : Value) (m : Md) (w : World) (ha : ArgM w va m) (l1 : m.ns.length ≤ 1000) (l2 : m.vs.length ≤ 1000) (i : Nat) (hi : i < m.ns.length) (hk : m.ns[i].k = true) :
    Calls Tryd.prog 19 #[va, .int .i64 (i : Int)] w (RKPost m 13 w) := by
  have ha0 := ha
  obtain ⟨⟨an, cn, av, cv, e0, hN, -, -, hV, -, -⟩, okN, okV⟩ := ha
  obtain ⟨N, hNl⟩ : ∃ N, N = m.ns.length := ⟨_, rfl⟩
  obtain ⟨V, hVl⟩ : ∃ V, V = m.vs.length := ⟨_, rfl⟩
  rw [← hNl, ← hVl] at e0
  obtain ⟨CM, hCM⟩ : ∃ CM : Array Value, CM = #[.slice an N cn, .slice av V cv] := ⟨_, rfl⟩
  rw [← hCM] at e0
  subst e0
  obtain ⟨a1, a2, hs2, hB⟩ := boxes2 w CM #[.slice none 0 0, .slice none 0 0] 32 32 _ rfl
  obtain ⟨w2, hw2⟩ : ∃ w2, w2 = (w.alloc (.cells CM 32)).alloc (.cells #[.slice none 0 0, .slice none 0 0] 32) := ⟨_, rfl⟩
  rw [← hw2] at a1 a2 hB
  have e10 : w2.cell? ⟨w.heap.size, 0, none⟩ = some (.slice an N cn) := by rw [cell_of_block a1, hCM]; rfl
  have e11 : w2.cell? ⟨w.heap.size, 1, none⟩ = some (.slice av V cv) := by rw [cell_of_block a1, hCM]; rfl
  obtain ⟨b, o, hab, hr⟩ := hN i hi
  subst hab
  have k39 : w2.cell? ⟨b, o + i * 40 + 39, none⟩ = some (.bool true) := (hB.cell (World.block_lt_of_cell? w _ (hr 39 _ (by rw [Nm.c39 (okN _ (List.getElem_mem hi)).f, hk])))).trans (hr 39 _ (by rw [Nm.c39 (okN _ (List.getElem_mem hi)).f, hk]))
  have hii : (i : Int) < (N : Int) := by rw [hNl]; omega
  have hzA : (Tryd.prog.info? 32).map (·.size) = some CM.size := by rw [hCM]; kernel_rfl
  have h1M : CM.all (·.oneCell') = true := by rw [hCM]; simp [Value.oneCell']
  have hss : (#[.slice none 0 0, .slice none 0 0] : Array Value).size = CM.size := by rw [hCM]; rfl
  have huA := Tryd.underlying32
  have e10x := e10
  rw [hw2] at e10x
  have e11x := e11
  rw [hw2] at e11x
  have k39x := k39
  rw [hw2] at k39x
  have hpost : Hid (∀ W, Below w.heap.size w W → RKPost m 13 w (.returned (.tuple #[.agg CM, .int .i64 13])) W) := Lib.hid (fun W h => ⟨_, rfl, ha0.below h (Nat.le_refl _), h⟩)
  replace hNl := Lib.hid hNl
  replace hVl := Lib.hid hVl
  replace hCM := Lib.hid hCM
  replace hw2 := Lib.hid hw2
  replace a1 := Lib.hid a1
  replace a2 := Lib.hid a2
  replace hB := Lib.hid hB
  replace hs2 := Lib.hid hs2
  clear ha0 hN hV okN okV hr
  go_enter Tryd.func19, Tryd.ntmps19
  go_wp2_with (first
    | ((with_reducible show wpList _ _ _ (Oper.mk _ (Op.load 32 (.tmp 2)) _ _ _ _ :: _) _ _); (try rw [← hw2.out]); refine wpList_load_row rfl 32 (.tmp 2) rfl w.heap.size CM _ rfl a1 huA rfl hzA ?_)
    | ((with_reducible show wpList _ _ _ (Oper.mk _ (Op.store 32 (.tmp 4) _) _ _ _ _ :: _) _ _); (try rw [← hw2.out]); (refine wpList_store_row rfl 32 (.tmp 4) (.tmp 23) rfl (w.heap.size + 1) _ CM rfl rfl a2 hzA hss h1M ?_); intro w9 hU9))
  refine ret_cell_tmpB (c := CM) rfl rfl huA rfl hzA hU9.out.here ?_
  exact hpost.out _ (hB.out.trans (hU9.out.below (by omega)))

set_option maxRecDepth 100000 in
set_option maxHeartbeats 2000000 in
theorem rasked_kind (va : Value) (m : Md) (w : World) (ha : ArgM w va m) (l1 : m.ns.length ≤ 1000) (l2 : m.vs.length ≤ 1000) (q way : Int) (h1 : way ≠ 1) (h2 : way ≠ 2) :
    Calls Tryd.prog 20 #[va, .int .i64 q, .int .i64 way] w (RNPost m 0 7 w) := by
  have ha0 := ha
  obtain ⟨⟨an, cn, av, cv, e0, hN, -, -, hV, -, -⟩, okN, okV⟩ := ha
  obtain ⟨N, hNl⟩ : ∃ N, N = m.ns.length := ⟨_, rfl⟩
  obtain ⟨V, hVl⟩ : ∃ V, V = m.vs.length := ⟨_, rfl⟩
  rw [← hNl, ← hVl] at e0
  obtain ⟨CM, hCM⟩ : ∃ CM : Array Value, CM = #[.slice an N cn, .slice av V cv] := ⟨_, rfl⟩
  rw [← hCM] at e0
  subst e0
  obtain ⟨a1, a2, hs2, hB⟩ := boxes2 w CM #[.slice none 0 0, .slice none 0 0] 32 32 _ rfl
  obtain ⟨w2, hw2⟩ : ∃ w2, w2 = (w.alloc (.cells CM 32)).alloc (.cells #[.slice none 0 0, .slice none 0 0] 32) := ⟨_, rfl⟩
  rw [← hw2] at a1 a2 hB
  have e10 : w2.cell? ⟨w.heap.size, 0, none⟩ = some (.slice an N cn) := by rw [cell_of_block a1, hCM]; rfl
  have e11 : w2.cell? ⟨w.heap.size, 1, none⟩ = some (.slice av V cv) := by rw [cell_of_block a1, hCM]; rfl
  have t1 : way < 1 ∨ (¬ way < 1 ∧ 2 < way) := by omega
  clear h1 h2
  rcases t1 with t1 | ⟨t0, t1⟩
  all_goals
    have hzA : (Tryd.prog.info? 32).map (·.size) = some CM.size := by rw [hCM]; kernel_rfl
    have h1M : CM.all (·.oneCell') = true := by rw [hCM]; simp [Value.oneCell']
    have hss : (#[.slice none 0 0, .slice none 0 0] : Array Value).size = CM.size := by rw [hCM]; rfl
    have huA := Tryd.underlying32
    have e10x := e10
    rw [hw2] at e10x
    have e11x := e11
    rw [hw2] at e11x
    have hpost : Hid (∀ W, Below w.heap.size w W → RNPost m 0 7 w (.returned (.tuple #[.agg CM, .int .i64 0, .int .i64 7])) W) := Lib.hid (fun W h => ⟨_, rfl, ha0.below h (Nat.le_refl _), h⟩)
    replace hNl := Lib.hid hNl
    replace hVl := Lib.hid hVl
    replace hCM := Lib.hid hCM
    replace hw2 := Lib.hid hw2
    replace a1 := Lib.hid a1
    replace a2 := Lib.hid a2
    replace hB := Lib.hid hB
    replace hs2 := Lib.hid hs2
    clear ha0 hN hV okN okV
    go_enter Tryd.func20, Tryd.ntmps20
    go_wp2_with (first
      | ((with_reducible show wpList _ _ _ (Oper.mk _ (Op.load 32 (.tmp 3)) _ _ _ _ :: _) _ _); (try rw [← hw2.out]); refine wpList_load_row rfl 32 (.tmp 3) rfl w.heap.size CM _ rfl a1 huA rfl hzA ?_)
      | ((with_reducible show wpList _ _ _ (Oper.mk _ (Op.store 32 (.tmp 6) _) _ _ _ _ :: _) _ _); (try rw [← hw2.out]); (refine wpList_store_row rfl 32 (.tmp 6) (.tmp 16) rfl (w.heap.size + 1) _ CM rfl rfl a2 hzA hss h1M ?_); intro w9 hU9))
    refine ret_cell_tmp2 (c := CM) rfl rfl huA rfl hzA hU9.out.here ?_
    exact hpost.out _ (hB.out.trans (hU9.out.below (by omega)))

set_option maxRecDepth 100000 in
set_option maxHeartbeats 2000000 in
theorem rasked_none (va : Value) (m : Md) (w : World) (ha : ArgM w va m) (l1 : m.ns.length ≤ 1000) (l2 : m.vs.length ≤ 1000) (way : Int) (hw : way = 1 ∨ way = 2) (q : Int) (h1 : q < 0 ∨ (m.ns.length : Int) ≤ q) :
    Calls Tryd.prog 20 #[va, .int .i64 q, .int .i64 way] w (RNPost m 0 11 w) := by
  rcases hw with rfl | rfl
  all_goals
    have ha0 := ha
    obtain ⟨⟨an, cn, av, cv, e0, hN, -, -, hV, -, -⟩, okN, okV⟩ := ha
    obtain ⟨N, hNl⟩ : ∃ N, N = m.ns.length := ⟨_, rfl⟩
    obtain ⟨V, hVl⟩ : ∃ V, V = m.vs.length := ⟨_, rfl⟩
    rw [← hNl, ← hVl] at e0
    obtain ⟨CM, hCM⟩ : ∃ CM : Array Value, CM = #[.slice an N cn, .slice av V cv] := ⟨_, rfl⟩
    rw [← hCM] at e0
    subst e0
    obtain ⟨a1, a2, hs2, hB⟩ := boxes2 w CM #[.slice none 0 0, .slice none 0 0] 32 32 _ rfl
    obtain ⟨w2, hw2⟩ : ∃ w2, w2 = (w.alloc (.cells CM 32)).alloc (.cells #[.slice none 0 0, .slice none 0 0] 32) := ⟨_, rfl⟩
    rw [← hw2] at a1 a2 hB
    have e10 : w2.cell? ⟨w.heap.size, 0, none⟩ = some (.slice an N cn) := by rw [cell_of_block a1, hCM]; rfl
    have e11 : w2.cell? ⟨w.heap.size, 1, none⟩ = some (.slice av V cv) := by rw [cell_of_block a1, hCM]; rfl
    have t1 : q < 0 ∨ (¬ q < 0 ∧ (N : Int) ≤ q) := by rw [hNl]; omega
    clear h1
    rcases t1 with t1 | ⟨t0, t1⟩
    all_goals
      have hzA : (Tryd.prog.info? 32).map (·.size) = some CM.size := by rw [hCM]; kernel_rfl
      have h1M : CM.all (·.oneCell') = true := by rw [hCM]; simp [Value.oneCell']
      have hss : (#[.slice none 0 0, .slice none 0 0] : Array Value).size = CM.size := by rw [hCM]; rfl
      have huA := Tryd.underlying32
      have e10x := e10
      rw [hw2] at e10x
      have e11x := e11
      rw [hw2] at e11x
      have hpost : Hid (∀ W, Below w.heap.size w W → RNPost m 0 11 w (.returned (.tuple #[.agg CM, .int .i64 0, .int .i64 11])) W) := Lib.hid (fun W h => ⟨_, rfl, ha0.below h (Nat.le_refl _), h⟩)
      replace hNl := Lib.hid hNl
      replace hVl := Lib.hid hVl
      replace hCM := Lib.hid hCM
      replace hw2 := Lib.hid hw2
      replace a1 := Lib.hid a1
      replace a2 := Lib.hid a2
      replace hB := Lib.hid hB
      replace hs2 := Lib.hid hs2
      clear ha0 hN hV okN okV
      go_enter Tryd.func20, Tryd.ntmps20
      go_wp2_with (first
        | ((with_reducible show wpList _ _ _ (Oper.mk _ (Op.load 32 (.tmp 3)) _ _ _ _ :: _) _ _); (try rw [← hw2.out]); refine wpList_load_row rfl 32 (.tmp 3) rfl w.heap.size CM _ rfl a1 huA rfl hzA ?_)
        | ((with_reducible show wpList _ _ _ (Oper.mk _ (Op.store 32 (.tmp 6) _) _ _ _ _ :: _) _ _); (try rw [← hw2.out]); (refine wpList_store_row rfl 32 (.tmp 6) (.tmp 26) rfl (w.heap.size + 1) _ CM rfl rfl a2 hzA hss h1M ?_); intro w9 hU9))
      refine ret_cell_tmp2 (c := CM) rfl rfl huA rfl hzA hU9.out.here ?_
      exact hpost.out _ (hB.out.trans (hU9.out.below (by omega)))

set_option maxRecDepth 100000 in
set_option maxHeartbeats 2000000 in
theorem rasked_state (va : Value) (m : Md) (w : World) (ha : ArgM w va m) (l1 : m.ns.length ≤ 1000) (l2 : m.vs.length ≤ 1000) (way : Int) (hw : way = 1 ∨ way = 2) (i : Nat) (hi : i < m.ns.length) (hk : m.ns[i].k = false) :
    Calls Tryd.prog 20 #[va, .int .i64 (i : Int), .int .i64 way] w (RNPost m 0 13 w) := by
  rcases hw with rfl | rfl
  all_goals
    have ha0 := ha
    obtain ⟨⟨an, cn, av, cv, e0, hN, -, -, hV, -, -⟩, okN, okV⟩ := ha
    obtain ⟨N, hNl⟩ : ∃ N, N = m.ns.length := ⟨_, rfl⟩
    obtain ⟨V, hVl⟩ : ∃ V, V = m.vs.length := ⟨_, rfl⟩
    rw [← hNl, ← hVl] at e0
    obtain ⟨CM, hCM⟩ : ∃ CM : Array Value, CM = #[.slice an N cn, .slice av V cv] := ⟨_, rfl⟩
    rw [← hCM] at e0
    subst e0
    obtain ⟨a1, a2, hs2, hB⟩ := boxes2 w CM #[.slice none 0 0, .slice none 0 0] 32 32 _ rfl
    obtain ⟨w2, hw2⟩ : ∃ w2, w2 = (w.alloc (.cells CM 32)).alloc (.cells #[.slice none 0 0, .slice none 0 0] 32) := ⟨_, rfl⟩
    rw [← hw2] at a1 a2 hB
    have e10 : w2.cell? ⟨w.heap.size, 0, none⟩ = some (.slice an N cn) := by rw [cell_of_block a1, hCM]; rfl
    have e11 : w2.cell? ⟨w.heap.size, 1, none⟩ = some (.slice av V cv) := by rw [cell_of_block a1, hCM]; rfl
    obtain ⟨b, o, hab, hr⟩ := hN i hi
    subst hab
    have k39 : w2.cell? ⟨b, o + i * 40 + 39, none⟩ = some (.bool false) := (hB.cell (World.block_lt_of_cell? w _ (hr 39 _ (by rw [Nm.c39 (okN _ (List.getElem_mem hi)).f, hk])))).trans (hr 39 _ (by rw [Nm.c39 (okN _ (List.getElem_mem hi)).f, hk]))
    have hii : (i : Int) < (N : Int) := by rw [hNl]; omega
    have hzA : (Tryd.prog.info? 32).map (·.size) = some CM.size := by rw [hCM]; kernel_rfl
    have h1M : CM.all (·.oneCell') = true := by rw [hCM]; simp [Value.oneCell']
    have hss : (#[.slice none 0 0, .slice none 0 0] : Array Value).size = CM.size := by rw [hCM]; rfl
    have huA := Tryd.underlying32
    have e10x := e10
    rw [hw2] at e10x
    have e11x := e11
    rw [hw2] at e11x
    have k39x := k39
    rw [hw2] at k39x
    have hpost : Hid (∀ W, Below w.heap.size w W → RNPost m 0 13 w (.returned (.tuple #[.agg CM, .int .i64 0, .int .i64 13])) W) := Lib.hid (fun W h => ⟨_, rfl, ha0.below h (Nat.le_refl _), h⟩)
    replace hNl := Lib.hid hNl
    replace hVl := Lib.hid hVl
    replace hCM := Lib.hid hCM
    replace hw2 := Lib.hid hw2
    replace a1 := Lib.hid a1
    replace a2 := Lib.hid a2
    replace hB := Lib.hid hB
    replace hs2 := Lib.hid hs2
    clear ha0 hN hV okN okV hr
    go_enter Tryd.func20, Tryd.ntmps20
    go_wp2_with (first
      | ((with_reducible show wpList _ _ _ (Oper.mk _ (Op.load 32 (.tmp 3)) _ _ _ _ :: _) _ _); (try rw [← hw2.out]); refine wpList_load_row rfl 32 (.tmp 3) rfl w.heap.size CM _ rfl a1 huA rfl hzA ?_)
      | ((with_reducible show wpList _ _ _ (Oper.mk _ (Op.store 32 (.tmp 6) _) _ _ _ _ :: _) _ _); (try rw [← hw2.out]); (refine wpList_store_row rfl 32 (.tmp 6) (.tmp 34) rfl (w.heap.size + 1) _ CM rfl rfl a2 hzA hss h1M ?_); intro w9 hU9))
    refine ret_cell_tmp2 (c := CM) rfl rfl huA rfl hzA hU9.out.here ?_
    exact hpost.out _ (hB.out.trans (hU9.out.below (by omega)))

set_option maxRecDepth 100000 in
set_option maxHeartbeats 2000000 in
theorem rasked_budget (va : Value) (m : Md) (w : World) (ha : ArgM w va m) (l1 : m.ns.length ≤ 1000) (l2 : m.vs.length ≤ 1000) (i : Nat) (hi : i < m.ns.length) (hk : m.ns[i].k = true) (hpn : ∀ x ∈ m.ns, 0 ≤ x.p.n ∧ x.p.n ≤ 1000) (hL : mLeft m (i : Int) = 0) :
    Calls Tryd.prog 20 #[va, .int .i64 (i : Int), .int .i64 2] w (RNPost m 0 18 w) := by
  have ha0 := ha
  obtain ⟨⟨an, cn, av, cv, e0, hN, -, -, hV, -, -⟩, okN, okV⟩ := ha
  have hc := Lib.hid (fun W (h : Below w.heap.size w W) => show Calls Tryd.prog 12 #[va, .int .i64 (i : Int)] W fun x w' => x = .returned (.int .i64 0) ∧ Below W.heap.size W w' from by have := rleft_any va m W (ha0.below h (Nat.le_refl _)) l1 l2 (i : Int) hpn; rwa [hL] at this)
  obtain ⟨N, hNl⟩ : ∃ N, N = m.ns.length := ⟨_, rfl⟩
  obtain ⟨V, hVl⟩ : ∃ V, V = m.vs.length := ⟨_, rfl⟩
  rw [← hNl, ← hVl] at e0
  obtain ⟨CM, hCM⟩ : ∃ CM : Array Value, CM = #[.slice an N cn, .slice av V cv] := ⟨_, rfl⟩
  rw [← hCM] at e0
  subst e0
  obtain ⟨a1, a2, hs2, hB⟩ := boxes2 w CM #[.slice none 0 0, .slice none 0 0] 32 32 _ rfl
  obtain ⟨w2, hw2⟩ : ∃ w2, w2 = (w.alloc (.cells CM 32)).alloc (.cells #[.slice none 0 0, .slice none 0 0] 32) := ⟨_, rfl⟩
  rw [← hw2] at a1 a2 hB
  have e10 : w2.cell? ⟨w.heap.size, 0, none⟩ = some (.slice an N cn) := by rw [cell_of_block a1, hCM]; rfl
  have e11 : w2.cell? ⟨w.heap.size, 1, none⟩ = some (.slice av V cv) := by rw [cell_of_block a1, hCM]; rfl
  obtain ⟨b, o, hab, hr⟩ := hN i hi
  subst hab
  have k39 : w2.cell? ⟨b, o + i * 40 + 39, none⟩ = some (.bool true) := (hB.cell (World.block_lt_of_cell? w _ (hr 39 _ (by rw [Nm.c39 (okN _ (List.getElem_mem hi)).f, hk])))).trans (hr 39 _ (by rw [Nm.c39 (okN _ (List.getElem_mem hi)).f, hk]))
  have hii : (i : Int) < (N : Int) := by rw [hNl]; omega
  have hzA : (Tryd.prog.info? 32).map (·.size) = some CM.size := by rw [hCM]; kernel_rfl
  have h1M : CM.all (·.oneCell') = true := by rw [hCM]; simp [Value.oneCell']
  have hss : (#[.slice none 0 0, .slice none 0 0] : Array Value).size = CM.size := by rw [hCM]; rfl
  have huA := Tryd.underlying32
  have e10x := e10
  rw [hw2] at e10x
  have e11x := e11
  rw [hw2] at e11x
  have k39x := k39
  rw [hw2] at k39x
  have hpost : Hid (∀ W, Below w.heap.size w W → RNPost m 0 18 w (.returned (.tuple #[.agg CM, .int .i64 0, .int .i64 18])) W) := Lib.hid (fun W h => ⟨_, rfl, ha0.below h (Nat.le_refl _), h⟩)
  replace hNl := Lib.hid hNl
  replace hVl := Lib.hid hVl
  replace hCM := Lib.hid hCM
  replace hw2 := Lib.hid hw2
  replace a1 := Lib.hid a1
  replace a2 := Lib.hid a2
  replace hB := Lib.hid hB
  replace hs2 := Lib.hid hs2
  clear ha0 hN hV okN okV hr hpn hL
  go_enter Tryd.func20, Tryd.ntmps20
  go_wp2_with ((with_reducible show wpList _ _ _ (Oper.mk _ (Op.load 32 (.tmp 3)) _ _ _ _ :: _) _ _); (try rw [← hw2.out]); refine wpList_load_row rfl 32 (.tmp 3) rfl w.heap.size CM _ rfl a1 huA rfl hzA ?_)
  (try rw [← hw2.out])
  rw [hCM.out] at hc
  with_reducible refine (hc.out w2 hB.out).mono ?_
  clear hc
  rintro x w3 ⟨rfl, hb3⟩
  replace e10 := (hb3.cell (World.block_lt_of_cell? w2 _ e10)).trans e10
  replace e11 := (hb3.cell (World.block_lt_of_cell? w2 _ e11)).trans e11
  replace k39 := (hb3.cell (World.block_lt_of_cell? w2 _ k39)).trans k39
  replace a1 := Lib.hid ((hb3.block _ (block_lt a1.out)).trans a1.out)
  replace a2 := Lib.hid ((hb3.block _ (block_lt a2.out)).trans a2.out)
  have hB3 := Lib.hid (hB.out.trans (hb3.mono hB.out.size))
  clear hb3 hB e10x e11x k39x
  generalize w3 = wz at *
  have hBz := hB3
  go_wp2_with (first
    | ((with_reducible show wpList _ _ _ (Oper.mk _ (Op.load 32 (.tmp 3)) _ _ _ _ :: _) _ _); (try rw [← hw2.out]); refine wpList_load_row rfl 32 (.tmp 3) rfl w.heap.size CM _ rfl a1 huA rfl hzA ?_)
    | ((with_reducible show wpList _ _ _ (Oper.mk _ (Op.store 32 (.tmp 6) _) _ _ _ _ :: _) _ _); (try rw [← hw2.out]); (refine wpList_store_row rfl 32 (.tmp 6) (.tmp 43) rfl (w.heap.size + 1) _ CM rfl rfl a2 hzA hss h1M ?_); intro w9 hU9))
  refine ret_cell_tmp2 (c := CM) rfl rfl huA rfl hzA hU9.out.here ?_
  exact hpost.out _ (hBz.out.trans (hU9.out.below (by omega)))

set_option maxRecDepth 100000 in
set_option maxHeartbeats 2000000 in
theorem rjudged_none (va : Value) (m : Md) (w : World) (ha : ArgM w va m) (l1 : m.ns.length ≤ 1000) (l2 : m.vs.length ≤ 1000) (q v : Int) (h1 : q < 0 ∨ (m.vs.length : Int) ≤ q) :
    Calls Tryd.prog 22 #[va, .int .i64 q, .int .i64 v] w (RKPost m 11 w) := by
  have ha0 := ha
  obtain ⟨⟨an, cn, av, cv, e0, hN, -, -, hV, -, -⟩, okN, okV⟩ := ha
  obtain ⟨N, hNl⟩ : ∃ N, N = m.ns.length := ⟨_, rfl⟩
  obtain ⟨V, hVl⟩ : ∃ V, V = m.vs.length := ⟨_, rfl⟩
  rw [← hNl, ← hVl] at e0
  obtain ⟨CM, hCM⟩ : ∃ CM : Array Value, CM = #[.slice an N cn, .slice av V cv] := ⟨_, rfl⟩
  rw [← hCM] at e0
  subst e0
  obtain ⟨a1, a2, hs2, hB⟩ := boxes2 w CM #[.slice none 0 0, .slice none 0 0] 32 32 _ rfl
  obtain ⟨w2, hw2⟩ : ∃ w2, w2 = (w.alloc (.cells CM 32)).alloc (.cells #[.slice none 0 0, .slice none 0 0] 32) := ⟨_, rfl⟩
  rw [← hw2] at a1 a2 hB
  have e10 : w2.cell? ⟨w.heap.size, 0, none⟩ = some (.slice an N cn) := by rw [cell_of_block a1, hCM]; rfl
  have e11 : w2.cell? ⟨w.heap.size, 1, none⟩ = some (.slice av V cv) := by rw [cell_of_block a1, hCM]; rfl
  have t1 : q < 0 ∨ (¬ q < 0 ∧ (V : Int) ≤ q) := by rw [hVl]; omega
  clear h1
  rcases t1 with t1 | ⟨t0, t1⟩
  all_goals
    have hzA : (Tryd.prog.info? 32).map (·.size) = some CM.size := by rw [hCM]; kernel_rfl
    have h1M : CM.all (·.oneCell') = true := by rw [hCM]; simp [Value.oneCell']
    have hss : (#[.slice none 0 0, .slice none 0 0] : Array Value).size = CM.size := by rw [hCM]; rfl
    have huA := Tryd.underlying32
    have e10x := e10
    rw [hw2] at e10x
    have e11x := e11
    rw [hw2] at e11x
    have hpost : Hid (∀ W, Below w.heap.size w W → RKPost m 11 w (.returned (.tuple #[.agg CM, .int .i64 11])) W) := Lib.hid (fun W h => ⟨_, rfl, ha0.below h (Nat.le_refl _), h⟩)
    replace hNl := Lib.hid hNl
    replace hVl := Lib.hid hVl
    replace hCM := Lib.hid hCM
    replace hw2 := Lib.hid hw2
    replace a1 := Lib.hid a1
    replace a2 := Lib.hid a2
    replace hB := Lib.hid hB
    replace hs2 := Lib.hid hs2
    clear ha0 hN hV okN okV
    go_enter Tryd.func22, Tryd.ntmps22
    go_wp2_with (first
      | ((with_reducible show wpList _ _ _ (Oper.mk _ (Op.load 32 (.tmp 3)) _ _ _ _ :: _) _ _); (try rw [← hw2.out]); refine wpList_load_row rfl 32 (.tmp 3) rfl w.heap.size CM _ rfl a1 huA rfl hzA ?_)
      | ((with_reducible show wpList _ _ _ (Oper.mk _ (Op.store 32 (.tmp 6) _) _ _ _ _ :: _) _ _); (try rw [← hw2.out]); (refine wpList_store_row rfl 32 (.tmp 6) (.tmp 18) rfl (w.heap.size + 1) _ CM rfl rfl a2 hzA hss h1M ?_); intro w9 hU9))
    refine ret_cell_tmpB (c := CM) rfl rfl huA rfl hzA hU9.out.here ?_
    exact hpost.out _ (hB.out.trans (hU9.out.below (by omega)))

set_option maxRecDepth 100000 in
set_option maxHeartbeats 2000000 in
theorem rjudged_state (va : Value) (m : Md) (w : World) (ha : ArgM w va m) (l1 : m.ns.length ≤ 1000) (l2 : m.vs.length ≤ 1000) (v : Int) (i : Nat) (hi : i < m.vs.length) (hk : (m.vs[i]).v ≠ 0) :
    Calls Tryd.prog 22 #[va, .int .i64 (i : Int), .int .i64 v] w (RKPost m 13 w) := by
  have ha0 := ha
  obtain ⟨⟨an, cn, av, cv, e0, hN, -, -, hV, -, -⟩, okN, okV⟩ := ha
  obtain ⟨N, hNl⟩ : ∃ N, N = m.ns.length := ⟨_, rfl⟩
  obtain ⟨V, hVl⟩ : ∃ V, V = m.vs.length := ⟨_, rfl⟩
  rw [← hNl, ← hVl] at e0
  obtain ⟨CM, hCM⟩ : ∃ CM : Array Value, CM = #[.slice an N cn, .slice av V cv] := ⟨_, rfl⟩
  rw [← hCM] at e0
  subst e0
  obtain ⟨a1, a2, hs2, hB⟩ := boxes2 w CM #[.slice none 0 0, .slice none 0 0] 32 32 _ rfl
  obtain ⟨w2, hw2⟩ : ∃ w2, w2 = (w.alloc (.cells CM 32)).alloc (.cells #[.slice none 0 0, .slice none 0 0] 32) := ⟨_, rfl⟩
  rw [← hw2] at a1 a2 hB
  have e10 : w2.cell? ⟨w.heap.size, 0, none⟩ = some (.slice an N cn) := by rw [cell_of_block a1, hCM]; rfl
  have e11 : w2.cell? ⟨w.heap.size, 1, none⟩ = some (.slice av V cv) := by rw [cell_of_block a1, hCM]; rfl
  obtain ⟨b, o, hab, hr⟩ := hV i hi
  subst hab
  have k2 : w2.cell? ⟨b, o + i * 3 + 2, none⟩ = some (.int .i64 (m.vs[i]).v) := (hB.cell (World.block_lt_of_cell? w _ (hr 2 _ rfl))).trans (hr 2 _ rfl)
  have hii : (i : Int) < (V : Int) := by rw [hVl]; omega
  have t1 : ((m.vs[i]).v != 0) = true := by simpa using hk
  generalize (m.vs[i]).v = y at *
  have hzA : (Tryd.prog.info? 32).map (·.size) = some CM.size := by rw [hCM]; kernel_rfl
  have h1M : CM.all (·.oneCell') = true := by rw [hCM]; simp [Value.oneCell']
  have hss : (#[.slice none 0 0, .slice none 0 0] : Array Value).size = CM.size := by rw [hCM]; rfl
  have huA := Tryd.underlying32
  have e10x := e10
  rw [hw2] at e10x
  have e11x := e11
  rw [hw2] at e11x
  have k2x := k2
  rw [hw2] at k2x
  have hpost : Hid (∀ W, Below w.heap.size w W → RKPost m 13 w (.returned (.tuple #[.agg CM, .int .i64 13])) W) := Lib.hid (fun W h => ⟨_, rfl, ha0.below h (Nat.le_refl _), h⟩)
  replace hNl := Lib.hid hNl
  replace hVl := Lib.hid hVl
  replace hCM := Lib.hid hCM
  replace hw2 := Lib.hid hw2
  replace a1 := Lib.hid a1
  replace a2 := Lib.hid a2
  replace hB := Lib.hid hB
  replace hs2 := Lib.hid hs2
  clear ha0 hN hV okN okV hr hk
  go_enter Tryd.func22, Tryd.ntmps22
  go_wp2_with (first
    | ((with_reducible show wpList _ _ _ (Oper.mk _ (Op.load 32 (.tmp 3)) _ _ _ _ :: _) _ _); (try rw [← hw2.out]); refine wpList_load_row rfl 32 (.tmp 3) rfl w.heap.size CM _ rfl a1 huA rfl hzA ?_)
    | ((with_reducible show wpList _ _ _ (Oper.mk _ (Op.store 32 (.tmp 6) _) _ _ _ _ :: _) _ _); (try rw [← hw2.out]); (refine wpList_store_row rfl 32 (.tmp 6) (.tmp 26) rfl (w.heap.size + 1) _ CM rfl rfl a2 hzA hss h1M ?_); intro w9 hU9))
  refine ret_cell_tmpB (c := CM) rfl rfl huA rfl hzA hU9.out.here ?_
  exact hpost.out _ (hB.out.trans (hU9.out.below (by omega)))

set_option maxRecDepth 100000 in
set_option maxHeartbeats 2000000 in
theorem rjudged_range (va : Value) (m : Md) (w : World) (ha : ArgM w va m) (l1 : m.ns.length ≤ 1000) (l2 : m.vs.length ≤ 1000) (v : Int) (i : Nat) (hi : i < m.vs.length) (hk : (m.vs[i]).v = 0) (h1 : v < 1 ∨ 3 < v) :
    Calls Tryd.prog 22 #[va, .int .i64 (i : Int), .int .i64 v] w (RKPost m 1 w) := by
  have ha0 := ha
  obtain ⟨⟨an, cn, av, cv, e0, hN, -, -, hV, -, -⟩, okN, okV⟩ := ha
  obtain ⟨N, hNl⟩ : ∃ N, N = m.ns.length := ⟨_, rfl⟩
  obtain ⟨V, hVl⟩ : ∃ V, V = m.vs.length := ⟨_, rfl⟩
  rw [← hNl, ← hVl] at e0
  obtain ⟨CM, hCM⟩ : ∃ CM : Array Value, CM = #[.slice an N cn, .slice av V cv] := ⟨_, rfl⟩
  rw [← hCM] at e0
  subst e0
  obtain ⟨a1, a2, hs2, hB⟩ := boxes2 w CM #[.slice none 0 0, .slice none 0 0] 32 32 _ rfl
  obtain ⟨w2, hw2⟩ : ∃ w2, w2 = (w.alloc (.cells CM 32)).alloc (.cells #[.slice none 0 0, .slice none 0 0] 32) := ⟨_, rfl⟩
  rw [← hw2] at a1 a2 hB
  have e10 : w2.cell? ⟨w.heap.size, 0, none⟩ = some (.slice an N cn) := by rw [cell_of_block a1, hCM]; rfl
  have e11 : w2.cell? ⟨w.heap.size, 1, none⟩ = some (.slice av V cv) := by rw [cell_of_block a1, hCM]; rfl
  obtain ⟨b, o, hab, hr⟩ := hV i hi
  subst hab
  have k2 : w2.cell? ⟨b, o + i * 3 + 2, none⟩ = some (.int .i64 0) := (hB.cell (World.block_lt_of_cell? w _ (hr 2 _ (by show some (Value.int .i64 (m.vs[i]).v) = _; rw [hk])))).trans (hr 2 _ (by show some (Value.int .i64 (m.vs[i]).v) = _; rw [hk]))
  have hii : (i : Int) < (V : Int) := by rw [hVl]; omega
  have t1 : v < 1 ∨ (¬ v < 1 ∧ 3 < v) := by omega
  clear h1
  rcases t1 with t1 | ⟨t0, t1⟩
  all_goals
    have hzA : (Tryd.prog.info? 32).map (·.size) = some CM.size := by rw [hCM]; kernel_rfl
    have h1M : CM.all (·.oneCell') = true := by rw [hCM]; simp [Value.oneCell']
    have hss : (#[.slice none 0 0, .slice none 0 0] : Array Value).size = CM.size := by rw [hCM]; rfl
    have huA := Tryd.underlying32
    have e10x := e10
    rw [hw2] at e10x
    have e11x := e11
    rw [hw2] at e11x
    have k2x := k2
    rw [hw2] at k2x
    have hpost : Hid (∀ W, Below w.heap.size w W → RKPost m 1 w (.returned (.tuple #[.agg CM, .int .i64 1])) W) := Lib.hid (fun W h => ⟨_, rfl, ha0.below h (Nat.le_refl _), h⟩)
    replace hNl := Lib.hid hNl
    replace hVl := Lib.hid hVl
    replace hCM := Lib.hid hCM
    replace hw2 := Lib.hid hw2
    replace a1 := Lib.hid a1
    replace a2 := Lib.hid a2
    replace hB := Lib.hid hB
    replace hs2 := Lib.hid hs2
    clear ha0 hN hV okN okV hr hk
    go_enter Tryd.func22, Tryd.ntmps22
    go_wp2_with (first
      | ((with_reducible show wpList _ _ _ (Oper.mk _ (Op.load 32 (.tmp 3)) _ _ _ _ :: _) _ _); (try rw [← hw2.out]); refine wpList_load_row rfl 32 (.tmp 3) rfl w.heap.size CM _ rfl a1 huA rfl hzA ?_)
      | ((with_reducible show wpList _ _ _ (Oper.mk _ (Op.store 32 (.tmp 6) _) _ _ _ _ :: _) _ _); (try rw [← hw2.out]); (refine wpList_store_row rfl 32 (.tmp 6) (.tmp 33) rfl (w.heap.size + 1) _ CM rfl rfl a2 hzA hss h1M ?_); intro w9 hU9))
    refine ret_cell_tmpB (c := CM) rfl rfl huA rfl hzA hU9.out.here ?_
    exact hpost.out _ (hB.out.trans (hU9.out.below (by omega)))

end Go.Proofs.YtndgacjfkoliaaaDoor
