/- model.Left. -/
import Derived.Test.YtndgacjfkoliaaaDoorF22PlaysSaid34
import Derived.Test.YtndgacjfkoliaaaDoorF4PlaysSaid34
import Derived.Deep.CutRange
namespace Go.Proofs.YtndgacjfkoliaaaDoor
open Go.RowKit
set_option linter.unusedSimpArgs false
set_option linter.unusedVariables false

theorem mCnt_le (vs : List Vd) (o x : Int) : mCnt vs o x ≤ vs.length := List.countP_le_length
set_option maxRecDepth 100000 in
set_option maxHeartbeats 2000000 in
theorem mleft_any (va : Value) (m : Md) (w : World) (ha : ArgM w va m) (l1 : m.ns.length ≤ 1000) (l2 : m.vs.length ≤ 1000) (q : Int) (hpn : ∀ x ∈ m.ns, 0 ≤ x.p.n ∧ x.p.n ≤ 1000) :
    Calls Tryd.prog 11 #[va, .int .i64 q] w fun e w' => e = .returned (.int .i64 (mLeft m q)) ∧ Below w.heap.size w w' := by
  have ha0 := ha
  obtain ⟨⟨an, cn, av, cv, e0, hN, -, -, hV, -, -⟩, okN, okV⟩ := ha
  obtain ⟨N, hNl⟩ : ∃ N, N = m.ns.length := ⟨_, rfl⟩
  obtain ⟨V, hVl⟩ : ∃ V, V = m.vs.length := ⟨_, rfl⟩
  rw [← hNl, ← hVl] at e0
  obtain ⟨CM, hCM⟩ : ∃ CM : Array Value, CM = #[.slice an N cn, .slice av V cv] := ⟨_, rfl⟩
  rw [← hCM] at e0
  subst e0
  obtain ⟨w2, hw2⟩ : ∃ w2, w2 = w.alloc (.cells CM 28) := ⟨_, rfl⟩
  have hB : Below w.heap.size w w2 := by rw [hw2]; exact (Below.refl _ _).alloc (Nat.le_refl _) _
  have a1 : w2.heap[w.heap.size]? = some (.cells CM 28 (0, 0)) := by rw [hw2]; exact heap_alloc_new w _
  have hzA : (Tryd.prog.info? 28).map (·.size) = some CM.size := by rw [hCM]; kernel_rfl
  have huA := Tryd.underlying28
  have e10 : w2.cell? ⟨w.heap.size, 0, none⟩ = some (.slice an N cn) := by rw [cell_of_block a1, hCM]; rfl
  by_cases h1 : 0 ≤ q ∧ q < m.ns.length
  · obtain ⟨i, rfl⟩ : ∃ i : Nat, q = (i : Int) := ⟨q.toNat, by omega⟩
    have hi : i < m.ns.length := by omega
    have hc := Lib.hid (fun W (h : Below w.heap.size w W) => show Calls Tryd.prog 25 #[.agg CM, .int .i64 (i : Int)] W fun x w' => x = .returned (.bool true) ∧ Below W.heap.size W w' from by have := there_any _ m W (ha0.below h (Nat.le_refl _)) (i : Int); rwa [decide_eq_true h1] at this)
    have hk := Lib.hid (fun W (h : Below w.heap.size w W) => masked_any _ m W (ha0.below h (Nat.le_refl _)) l2 (i : Int) 2)
    obtain ⟨b, o, hab, hr⟩ := hN i hi
    subst hab
    have ok := hpn _ (List.getElem_mem hi)
    have hmL : mLeft m (i : Int) = max ((m.ns[i]).p.n - (mCnt m.vs (i : Int) 2 : Nat)) 0 := by
      unfold mLeft
      rw [if_neg (by omega)]
      simp [List.getD_eq_getElem?_getD, List.getElem?_eq_getElem hi]
    have kp : w.cell? ⟨b, o + i * 40 + 2, none⟩ = some (.int .i64 (m.ns[i]).p.n) := hr 2 _ rfl
    have kp2 := (hB.cell (World.block_lt_of_cell? w _ kp)).trans kp
    have hii : (i : Int) < (N : Int) := by rw [hNl]; omega
    have hcn : mCnt m.vs (i : Int) 2 ≤ 1000 := Nat.le_trans (mCnt_le _ _ _) l2
    generalize (m.ns[i]).p.n = pn at *
    generalize mCnt m.vs (i : Int) 2 = cnt at *
    rw [hmL]
    have hwr : IntKind.i64.wrap (pn - (cnt : Int)) = pn - (cnt : Int) := IntWalk.i64_in _ (by omega)
    have hres : ∃ r : Int, max (pn - (cnt : Nat)) 0 = r ∧ ((pn - (cnt : Int) ≤ 0 ∧ r = 0) ∨ (0 < pn - (cnt : Int) ∧ r = pn - (cnt : Int))) := ⟨_, rfl, by omega⟩
    obtain ⟨r, hr1, hr2⟩ := hres
    rw [hr1]
    replace hwr := Lib.hid hwr
    obtain ⟨hp0, hp1⟩ := ok
    replace hNl := Lib.hid hNl
    replace hVl := Lib.hid hVl
    replace hCM := Lib.hid hCM
    replace hw2 := Lib.hid hw2
    replace a1 := Lib.hid a1
    replace hB := Lib.hid hB
    clear ha0 hN hV okN okV hr hr1 kp hpn h1 hmL
    go_enter Tryd.func11, Tryd.ntmps11
    go_wp2_with ((with_reducible show wpList _ _ _ (Oper.mk _ (Op.load 28 (.tmp 2)) _ _ _ _ :: _) _ _); (try rw [← hw2.out]); refine wpList_load_row rfl 28 (.tmp 2) rfl w.heap.size CM _ rfl a1 huA rfl hzA ?_)
    with_reducible refine (hc.out w2 hB.out).mono ?_
    clear hc
    rintro x w3 ⟨rfl, hb3⟩
    have hB3 := Lib.hid (hB.out.trans (hb3.mono hB.out.size))
    replace a1 := Lib.hid ((hb3.block _ (block_lt a1.out)).trans a1.out)
    replace kp2 := (hb3.cell (World.block_lt_of_cell? w2 _ kp2)).trans kp2
    replace e10 := (hb3.cell (World.block_lt_of_cell? w2 _ e10)).trans e10
    clear hb3 hB
    go_wp2_with fail
    have hd0 : Hid (Grown w3 w3.drew) := Lib.hid (Grown.drew (Grown.refl w3))
    have rlA : ∀ W : World, Grown w3 W → W.heap[w.heap.size]? = some (.cells CM 28 (0, 0)) := fun W hW => (hW.block _ (block_lt a1.out)).trans a1.out
    have kc : ∀ W : World, Grown w3 W → W.cell? ⟨w.heap.size, 0, none⟩ = some (.slice (some ⟨b, o, none⟩) N cn) := fun W hW => (hW.cell (World.block_lt_of_cell? w3 _ e10)).trans e10
    have kq : ∀ W : World, Grown w3 W → W.cell? ⟨b, o + i * 40 + 2, none⟩ = some (.int .i64 pn) := fun W hW => (hW.cell (World.block_lt_of_cell? w3 _ kp2)).trans kp2
    clear e10 kp2
    rcases hr2 with ⟨h2, rfl⟩ | ⟨h2, rfl⟩
    · have hm0 := Lib.hid (show max (pn - (cnt : Int)) 0 = 0 by omega)
      refine wp_region_held_drew (S := (Grown w3)) (by kernel_rfl) hd0.out (fun hOn => ?_)
      generalize World.drew w3 = wd at *
      refine wpAnyH_take (i := 0) (v := ?_) (by simp only [List.getElem?_toArray, List.getElem?_cons_zero]; rfl) (by kernel_rfl) (by kernel_rfl) (by kernel_rfl) (by exact fun _ _ _ h => h) (Or.inl ⟨by rfl, ?_⟩) hOn ?_
      rotate_left
      focus (intro W hSW; go_simp; try with_reducible rfl)
      try simp only [Act.put, List.setIfInBounds_toArray, List.set_cons_zero, List.set_cons_succ]
      refine wpAnyH_take (i := 1) (v := ?_) (by simp only [List.getElem?_toArray, List.getElem?_cons_succ, List.getElem?_cons_zero]; rfl) (by kernel_rfl) (by kernel_rfl) (by kernel_rfl) (by exact fun _ _ _ h => h) (Or.inl ⟨by rfl, ?_⟩) hOn ?_
      rotate_left
      focus (intro W hSW; go_simp; try with_reducible rfl)
      try simp only [Act.put, List.setIfInBounds_toArray, List.set_cons_zero, List.set_cons_succ]
      refine wpAnyH_take (i := 2) (v := ?_) (by simp only [List.getElem?_toArray, List.getElem?_cons_succ, List.getElem?_cons_zero]; rfl) (by kernel_rfl) (by kernel_rfl) (by kernel_rfl) (by exact fun _ _ _ h => h) (Or.inl ⟨by rfl, ?_⟩) hOn ?_
      rotate_left
      focus (intro W hSW; go_simp; try with_reducible rfl)
      try simp only [Act.put, List.setIfInBounds_toArray, List.set_cons_zero, List.set_cons_succ]
      refine wpAnyH_take (i := 3) (v := ?_) (by simp only [List.getElem?_toArray, List.getElem?_cons_succ, List.getElem?_cons_zero]; rfl) (by kernel_rfl) (by kernel_rfl) (by kernel_rfl) (by exact fun _ _ _ h => h) (Or.inl ⟨by rfl, ?_⟩) hOn ?_
      rotate_left
      focus (intro W hSW; go_simp; try with_reducible rfl)
      try simp only [Act.put, List.setIfInBounds_toArray, List.set_cons_zero, List.set_cons_succ]
      refine wpAnyH_take (i := 4) (v := ?_) (by simp only [List.getElem?_toArray, List.getElem?_cons_succ, List.getElem?_cons_zero]; rfl) (by kernel_rfl) (by kernel_rfl) (by kernel_rfl) (by exact fun _ _ _ h => h) (Or.inl ⟨by rfl, ?_⟩) hOn ?_
      rotate_left
      focus (intro W hSW; go_simp; try with_reducible rfl)
      try simp only [Act.put, List.setIfInBounds_toArray, List.set_cons_zero, List.set_cons_succ]
      refine wpAnyH_take (i := 5) (v := ?_) (by simp only [List.getElem?_toArray, List.getElem?_cons_succ, List.getElem?_cons_zero]; rfl) (by kernel_rfl) (by kernel_rfl) (by kernel_rfl) (by exact fun _ _ _ h => h) (Or.inl ⟨by rfl, ?_⟩) hOn ?_
      rotate_left
      focus (intro W hSW; go_simp; try with_reducible rfl)
      try simp only [Act.put, List.setIfInBounds_toArray, List.set_cons_zero, List.set_cons_succ]
      refine wpAnyH_take (i := 6) (v := ?_) (by simp only [List.getElem?_toArray, List.getElem?_cons_succ, List.getElem?_cons_zero]; rfl) (by kernel_rfl) (by kernel_rfl) (by kernel_rfl) (by exact fun _ _ _ h => h) (Or.inl ⟨by rfl, ?_⟩) hOn ?_
      rotate_left
      focus (intro W hSW; go_simp; try with_reducible rfl)
      try simp only [Act.put, List.setIfInBounds_toArray, List.set_cons_zero, List.set_cons_succ]
      refine wpAnyH_take (i := 7) (v := Value.agg _) (by simp only [List.getElem?_toArray, List.getElem?_cons_succ, List.getElem?_cons_zero]; rfl) (by kernel_rfl) (by kernel_rfl) (by kernel_rfl) (by exact fun _ _ _ h => h) (Or.inl ⟨by rfl, fun W hSW => yields_load_row _ _ rfl _ _ _ rfl (rlA W hSW) huA rfl hzA⟩) hOn ?_
      try simp only [Act.put, List.setIfInBounds_toArray, List.set_cons_zero, List.set_cons_succ]
      refine wpAnyH_take (i := 8) (v := ?_) (by simp only [List.getElem?_toArray, List.getElem?_cons_succ, List.getElem?_cons_zero]; rfl) (by kernel_rfl) (by kernel_rfl) (by kernel_rfl) (by exact fun _ _ _ h => h) (Or.inl ⟨by rfl, ?_⟩) hOn ?_
      rotate_left
      focus (intro W hSW; go_simp; try with_reducible rfl)
      try simp only [Act.put, List.setIfInBounds_toArray, List.set_cons_zero, List.set_cons_succ]
      refine wpAnyH_ready (rs := [9]) (by kernel_rfl) (by simp) ?_
      refine AllReadyH.cons (by simp only [List.getElem?_toArray, List.getElem?_cons_succ, List.getElem?_cons_zero]; rfl) (fun Kz hKz => ?_) AllReadyH.nil
      go_simp
      (with_reducible refine (hk.out _ (hB3.out.trans (hOn.mono hB3.out.size))).mono ?_)
      rintro e wa ⟨rfl, hnew⟩
      have hS := Grown.trans hOn hnew
      focus (go_wp2_with fail)
      refine hKz.out _ _ (by first | exact hS | exact Below.trans hOn (Below.mono hnew (Below.size hOn))) (fun hNext => ?_)
      clear hKz Kz hOn
      have hOn := hNext
      clear hNext
      try clear hnew
      try clear hS
      try simp only [Act.put, List.setIfInBounds_toArray, List.set_cons_zero, List.set_cons_succ]
      refine wpAnyH_take (i := 10) (v := ?_) (by simp only [List.getElem?_toArray, List.getElem?_cons_succ, List.getElem?_cons_zero]; rfl) (by kernel_rfl) (by kernel_rfl) (by kernel_rfl) (by exact fun _ _ _ h => h) (Or.inl ⟨by rfl, ?_⟩) hOn ?_
      rotate_left
      focus (intro W hSW; go_simp; try with_reducible rfl)
      try simp only [Act.put, List.setIfInBounds_toArray, List.set_cons_zero, List.set_cons_succ]
      refine wpAnyH_ready (rs := [11]) (by kernel_rfl) (by simp) ?_
      refine AllReadyH.cons (by simp only [List.getElem?_toArray, List.getElem?_cons_succ, List.getElem?_cons_zero]; rfl) (fun Kz hKz => ?_) AllReadyH.nil
      go_simp
      focus (try go_wp2_with fail)
      refine hKz.out _ _ (by first | exact hOn | exact Grown.alloc hOn _ | exact Below.alloc hOn (Below.size hOn) _ | exact Grown.alloc (Grown.refl _) _) (fun hNext => ?_)
      clear hKz Kz hOn
      have hOn := hNext
      clear hNext
      try simp only [Act.put, List.setIfInBounds_toArray, List.set_cons_zero, List.set_cons_succ]
      refine wpAnyH_take (i := 12) (v := ?_) (by simp only [List.getElem?_toArray, List.getElem?_cons_succ, List.getElem?_cons_zero]; rfl) (by kernel_rfl) (by kernel_rfl) (by kernel_rfl) (by exact fun _ _ _ h => h) (Or.inl ⟨by rfl, ?_⟩) hOn ?_
      rotate_left
      focus (intro W hSW; go_simp; try with_reducible rfl)
      try simp only [Act.put, List.setIfInBounds_toArray, List.set_cons_zero, List.set_cons_succ]
      refine wpAnyH_done (by kernel_rfl) ?_ _
      all_goals
        go_wp2_with fail
        go_ret
        refine ⟨?_, hB3.out.trans (hOn.mono hB3.out.size)⟩
        show Ending.returned (.int .i64 (max (IntKind.i64.wrap (pn - (cnt : Int))) 0)) = _
        rw [hwr.out, hm0.out]
    · have hm0 := Lib.hid (show max (pn - (cnt : Int)) 0 = pn - (cnt : Int) by omega)
      refine wp_region_held_drew (S := (Grown w3)) (by kernel_rfl) hd0.out (fun hOn => ?_)
      generalize World.drew w3 = wd at *
      refine wpAnyH_take (i := 0) (v := ?_) (by simp only [List.getElem?_toArray, List.getElem?_cons_zero]; rfl) (by kernel_rfl) (by kernel_rfl) (by kernel_rfl) (by exact fun _ _ _ h => h) (Or.inl ⟨by rfl, ?_⟩) hOn ?_
      rotate_left
      focus (intro W hSW; go_simp; try with_reducible rfl)
      try simp only [Act.put, List.setIfInBounds_toArray, List.set_cons_zero, List.set_cons_succ]
      refine wpAnyH_take (i := 1) (v := ?_) (by simp only [List.getElem?_toArray, List.getElem?_cons_succ, List.getElem?_cons_zero]; rfl) (by kernel_rfl) (by kernel_rfl) (by kernel_rfl) (by exact fun _ _ _ h => h) (Or.inl ⟨by rfl, ?_⟩) hOn ?_
      rotate_left
      focus (intro W hSW; go_simp; try with_reducible rfl)
      try simp only [Act.put, List.setIfInBounds_toArray, List.set_cons_zero, List.set_cons_succ]
      refine wpAnyH_take (i := 2) (v := ?_) (by simp only [List.getElem?_toArray, List.getElem?_cons_succ, List.getElem?_cons_zero]; rfl) (by kernel_rfl) (by kernel_rfl) (by kernel_rfl) (by exact fun _ _ _ h => h) (Or.inl ⟨by rfl, ?_⟩) hOn ?_
      rotate_left
      focus (intro W hSW; go_simp; try with_reducible rfl)
      try simp only [Act.put, List.setIfInBounds_toArray, List.set_cons_zero, List.set_cons_succ]
      refine wpAnyH_take (i := 3) (v := ?_) (by simp only [List.getElem?_toArray, List.getElem?_cons_succ, List.getElem?_cons_zero]; rfl) (by kernel_rfl) (by kernel_rfl) (by kernel_rfl) (by exact fun _ _ _ h => h) (Or.inl ⟨by rfl, ?_⟩) hOn ?_
      rotate_left
      focus (intro W hSW; go_simp; try with_reducible rfl)
      try simp only [Act.put, List.setIfInBounds_toArray, List.set_cons_zero, List.set_cons_succ]
      refine wpAnyH_take (i := 4) (v := ?_) (by simp only [List.getElem?_toArray, List.getElem?_cons_succ, List.getElem?_cons_zero]; rfl) (by kernel_rfl) (by kernel_rfl) (by kernel_rfl) (by exact fun _ _ _ h => h) (Or.inl ⟨by rfl, ?_⟩) hOn ?_
      rotate_left
      focus (intro W hSW; go_simp; try with_reducible rfl)
      try simp only [Act.put, List.setIfInBounds_toArray, List.set_cons_zero, List.set_cons_succ]
      refine wpAnyH_take (i := 5) (v := ?_) (by simp only [List.getElem?_toArray, List.getElem?_cons_succ, List.getElem?_cons_zero]; rfl) (by kernel_rfl) (by kernel_rfl) (by kernel_rfl) (by exact fun _ _ _ h => h) (Or.inl ⟨by rfl, ?_⟩) hOn ?_
      rotate_left
      focus (intro W hSW; go_simp; try with_reducible rfl)
      try simp only [Act.put, List.setIfInBounds_toArray, List.set_cons_zero, List.set_cons_succ]
      refine wpAnyH_take (i := 6) (v := ?_) (by simp only [List.getElem?_toArray, List.getElem?_cons_succ, List.getElem?_cons_zero]; rfl) (by kernel_rfl) (by kernel_rfl) (by kernel_rfl) (by exact fun _ _ _ h => h) (Or.inl ⟨by rfl, ?_⟩) hOn ?_
      rotate_left
      focus (intro W hSW; go_simp; try with_reducible rfl)
      try simp only [Act.put, List.setIfInBounds_toArray, List.set_cons_zero, List.set_cons_succ]
      refine wpAnyH_take (i := 7) (v := Value.agg _) (by simp only [List.getElem?_toArray, List.getElem?_cons_succ, List.getElem?_cons_zero]; rfl) (by kernel_rfl) (by kernel_rfl) (by kernel_rfl) (by exact fun _ _ _ h => h) (Or.inl ⟨by rfl, fun W hSW => yields_load_row _ _ rfl _ _ _ rfl (rlA W hSW) huA rfl hzA⟩) hOn ?_
      try simp only [Act.put, List.setIfInBounds_toArray, List.set_cons_zero, List.set_cons_succ]
      refine wpAnyH_take (i := 8) (v := ?_) (by simp only [List.getElem?_toArray, List.getElem?_cons_succ, List.getElem?_cons_zero]; rfl) (by kernel_rfl) (by kernel_rfl) (by kernel_rfl) (by exact fun _ _ _ h => h) (Or.inl ⟨by rfl, ?_⟩) hOn ?_
      rotate_left
      focus (intro W hSW; go_simp; try with_reducible rfl)
      try simp only [Act.put, List.setIfInBounds_toArray, List.set_cons_zero, List.set_cons_succ]
      refine wpAnyH_ready (rs := [9]) (by kernel_rfl) (by simp) ?_
      refine AllReadyH.cons (by simp only [List.getElem?_toArray, List.getElem?_cons_succ, List.getElem?_cons_zero]; rfl) (fun Kz hKz => ?_) AllReadyH.nil
      go_simp
      (with_reducible refine (hk.out _ (hB3.out.trans (hOn.mono hB3.out.size))).mono ?_)
      rintro e wa ⟨rfl, hnew⟩
      have hS := Grown.trans hOn hnew
      focus (go_wp2_with fail)
      refine hKz.out _ _ (by first | exact hS | exact Below.trans hOn (Below.mono hnew (Below.size hOn))) (fun hNext => ?_)
      clear hKz Kz hOn
      have hOn := hNext
      clear hNext
      try clear hnew
      try clear hS
      try simp only [Act.put, List.setIfInBounds_toArray, List.set_cons_zero, List.set_cons_succ]
      refine wpAnyH_take (i := 10) (v := ?_) (by simp only [List.getElem?_toArray, List.getElem?_cons_succ, List.getElem?_cons_zero]; rfl) (by kernel_rfl) (by kernel_rfl) (by kernel_rfl) (by exact fun _ _ _ h => h) (Or.inl ⟨by rfl, ?_⟩) hOn ?_
      rotate_left
      focus (intro W hSW; go_simp; try with_reducible rfl)
      try simp only [Act.put, List.setIfInBounds_toArray, List.set_cons_zero, List.set_cons_succ]
      refine wpAnyH_ready (rs := [11]) (by kernel_rfl) (by simp) ?_
      refine AllReadyH.cons (by simp only [List.getElem?_toArray, List.getElem?_cons_succ, List.getElem?_cons_zero]; rfl) (fun Kz hKz => ?_) AllReadyH.nil
      go_simp
      focus (try go_wp2_with fail)
      refine hKz.out _ _ (by first | exact hOn | exact Grown.alloc hOn _ | exact Below.alloc hOn (Below.size hOn) _ | exact Grown.alloc (Grown.refl _) _) (fun hNext => ?_)
      clear hKz Kz hOn
      have hOn := hNext
      clear hNext
      try simp only [Act.put, List.setIfInBounds_toArray, List.set_cons_zero, List.set_cons_succ]
      refine wpAnyH_take (i := 12) (v := ?_) (by simp only [List.getElem?_toArray, List.getElem?_cons_succ, List.getElem?_cons_zero]; rfl) (by kernel_rfl) (by kernel_rfl) (by kernel_rfl) (by exact fun _ _ _ h => h) (Or.inl ⟨by rfl, ?_⟩) hOn ?_
      rotate_left
      focus (intro W hSW; go_simp; try with_reducible rfl)
      try simp only [Act.put, List.setIfInBounds_toArray, List.set_cons_zero, List.set_cons_succ]
      refine wpAnyH_done (by kernel_rfl) ?_ _
      all_goals
        go_wp2_with fail
        go_ret
        refine ⟨?_, hB3.out.trans (hOn.mono hB3.out.size)⟩
        show Ending.returned (.int .i64 (max (IntKind.i64.wrap (pn - (cnt : Int))) 0)) = _
        rw [hwr.out, hm0.out]
  · have hc := Lib.hid (fun W (h : Below w.heap.size w W) => show Calls Tryd.prog 25 #[.agg CM, .int .i64 q] W fun x w' => x = .returned (.bool false) ∧ Below W.heap.size W w' from by have := there_any _ m W (ha0.below h (Nat.le_refl _)) q; rwa [decide_eq_false h1] at this)
    have hmL : mLeft m q = 0 := by
      unfold mLeft
      rw [if_pos (by omega)]
    rw [hmL]
    replace hw2 := Lib.hid hw2
    replace a1 := Lib.hid a1
    replace hB := Lib.hid hB
    replace hCM := Lib.hid hCM
    clear ha0 hN hV okN okV hpn h1 hmL hNl hVl
    go_enter Tryd.func11, Tryd.ntmps11
    go_wp2_with ((with_reducible show wpList _ _ _ (Oper.mk _ (Op.load 28 (.tmp 2)) _ _ _ _ :: _) _ _); (try rw [← hw2.out]); refine wpList_load_row rfl 28 (.tmp 2) rfl w.heap.size CM _ rfl a1 huA rfl hzA ?_)
    with_reducible refine (hc.out w2 hB.out).mono ?_
    clear hc
    rintro x w3 ⟨rfl, hb3⟩
    have hB3 := Lib.hid (hB.out.trans (hb3.mono hB.out.size))
    clear hb3 hB
    go_wp2_with fail
    go_ret
    exact ⟨rfl, hB3.out⟩
end Go.Proofs.YtndgacjfkoliaaaDoor
