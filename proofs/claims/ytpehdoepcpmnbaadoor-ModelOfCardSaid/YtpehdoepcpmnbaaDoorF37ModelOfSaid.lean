/- baileeref34.Same of two models that hold the same. Printed by gensame.py. -/
import Derived.Test.YtpehdoepcpmnbaaDoorF36ModelOfSaid
import Derived.Test.YtpehdoepcpmnbaaDoorF5ModelOfSaid
namespace Go.Proofs.YtpehdoepcpmnbaaDoor
open Go.RowKit
set_option linter.unusedVariables false

set_option maxRecDepth 100000 in
set_option maxHeartbeats 1000000 in
theorem same34_eq (va vb : Value) (m : Md) (w : World) (ha : ArgM w va m) (hb : ArgM w vb m) (l1 : m.ns.length ≤ 1000) (l2 : m.vs.length ≤ 1000) :
    Calls Tryd.prog 11 #[va, vb] w fun x w' => x = .returned (.bool true) ∧ Below w.heap.size w w' := by
  obtain ⟨⟨an, cn, av, cv, rfl, hN, hN1, hN2, hV, hV1, hV2⟩, okN, okV⟩ := ha
  obtain ⟨⟨bn, dn, bv, dv, rfl, hM, hM1, hM2, hW, hW1, hW2⟩, _, _⟩ := hb
  obtain ⟨N, hNl⟩ : ∃ N, N = m.ns.length := ⟨_, rfl⟩
  obtain ⟨V, hVl⟩ : ∃ V, V = m.vs.length := ⟨_, rfl⟩
  rw [← hNl, ← hVl]
  rw [← hNl] at l1
  rw [← hVl] at l2
  obtain ⟨a1, a2, hs2, hB⟩ := two_boxes w #[.slice an N cn, .slice av V cv] #[.slice bn N dn, .slice bv V dv] 30 30 _ rfl
  obtain ⟨w2, hw2⟩ : ∃ w2, w2 = (w.alloc (.cells #[.slice an N cn, .slice av V cv] 30)).alloc (.cells #[.slice bn N dn, .slice bv V dv] 30) := ⟨_, rfl⟩
  have e10 := cell_of_block a1 0
  have e11 := cell_of_block a1 1
  have e20 := cell_of_block a2 0
  have e21 := cell_of_block a2 1
  rw [← hw2] at a1 a2 hs2 hB
  have hNl2 := Lib.hid hNl
  have hVl2 := Lib.hid hVl
  replace hw2 := Lib.hid hw2
  replace a1 := Lib.hid a1
  replace a2 := Lib.hid a2
  replace hB := Lib.hid hB
  replace hs2 := Lib.hid hs2
  replace hN := Lib.hid hN
  replace hV := Lib.hid hV
  replace hM := Lib.hid hM
  replace hW := Lib.hid hW
  replace okN := Lib.hid okN
  replace okV := Lib.hid okV
  clear hN1 hN2 hV1 hV2 hM1 hM2 hW1 hW2 hNl hVl
  go_enter Tryd.func11, Tryd.ntmps11
  go_wp2_with fail
  rw [← hw2.out]
  clear e10 e11 e20 e21 hw2
  refine wp_loopF [(false, 5), (true, 1), (false, 20), (true, 15), (false, 18)] _ [] (fun U wr => ∃ k : Nat, k ≤ N ∧ U 26 = .int .i64 (k : Nat) ∧ Below w2.heap.size w2 wr) (fun U _ => N - (intOf (U 26)).toNat) ?_ ?_
  · simp only [List.getD_cons_zero, List.getD_cons_succ]
    exact ⟨0, Nat.zero_le _, rfl, Below.refl _ _⟩
  · skip
    intro U wr hrel KK hback l' hl'
    obtain ⟨k, hk, h12, hbw⟩ := hrel
    simp only [fillS, popSeg, cond_true, cond_false, Nat.reduceAdd, h12] at hl'
    subst hl'
    replace h12 := Lib.hid h12
    have c1 := (hbw.block _ (block_lt a1.out)).trans a1.out
    have c2 := (hbw.block _ (block_lt a2.out)).trans a2.out
    have hbB := Lib.hid (hB.out.trans (hbw.mono hB.out.size))
    have s10 := cell_of_block c1 0
    have s20 := cell_of_block c2 0
    by_cases hlt : k < N
    · have hlt2 : (k : Int) < (N : Int) := by omega
      have hkN : k < m.ns.length := by rw [← hNl2.out]; exact hlt
      obtain ⟨b1, o1, rfl, hr1⟩ := (hN.out.below hbB.out (Nat.le_refl _)) k hkN
      obtain ⟨b2, o2, rfl, hr2⟩ := (hM.out.below hbB.out (Nat.le_refl _)) k hkN
      have ox := okN.out _ (List.getElem_mem hkN)
      generalize m.ns[k] = x at *
      have ix : (Tryd.prog.info? 36).map (·.size) = some x.list.length := by rw [Nm.list_length ox.f]; kernel_rfl
      have hne : ∀ W, _ := fun W => neq_nmR x x ox ox W
      rw [decide_eq_true (rfl : x = x), Bool.not_true] at hne
      obtain ⟨X, hX⟩ : ∃ X, X = x.list.toArray := ⟨_, rfl⟩
      rw [← hX] at hne
      replace hX := Lib.hid hX
      replace hr1 := Lib.hid hr1
      replace hr2 := Lib.hid hr2
      replace hbw := Lib.hid hbw
      replace ox := Lib.hid ox
      clear c1 c2
      go_wp2_with fail
      have hd0 : Hid (Grown wr wr.drew) := Lib.hid (Grown.drew (Grown.refl wr))
      have k10 := fun W (h : Grown wr W) => (h.cell (World.block_lt_of_cell? wr _ s10)).trans s10
      have k20 := fun W (h : Grown wr W) => (h.cell (World.block_lt_of_cell? wr _ s20)).trans s20
      have r1 := Lib.hid (fun W (h : Grown wr W) => rangeAt_below hr1.out h (Nat.le_refl _))
      have r2 := Lib.hid (fun W (h : Grown wr W) => rangeAt_below hr2.out h (Nat.le_refl _))
      have hu := Tryd.underlying36
      refine wp_region_held_drew (S := (Grown wr)) (by kernel_rfl) hd0.out (fun hOn => ?_)
      generalize World.drew wr = wd at *
      refine wpAnyH_take (i := 0) (v := ?_) (by simp only [List.getElem?_toArray, List.getElem?_cons_zero]; rfl) (by kernel_rfl) (by kernel_rfl) (by kernel_rfl) (by exact fun _ _ _ h => h) (Or.inl ⟨by rfl, ?_⟩) hOn ?_
      rotate_left
      focus (intro W hSW; go_simp; try with_reducible rfl)
      try simp only [Act.put, List.setIfInBounds_toArray, List.set_cons_zero, List.set_cons_succ]
      refine wpAnyH_take (i := 1) (v := ?_) (by simp only [List.getElem?_toArray, List.getElem?_cons_succ, List.getElem?_cons_zero]; rfl) (by kernel_rfl) (by kernel_rfl) (by kernel_rfl) (by exact fun _ _ _ h => h) (Or.inl ⟨by rfl, ?_⟩) hOn ?_
      rotate_left
      focus (intro W hSW; go_simp; try with_reducible rfl)
      try simp only [Act.put, List.setIfInBounds_toArray, List.set_cons_zero, List.set_cons_succ]
      refine wpAnyH_take (i := 2) (v := ?_) (by simp only [List.getElem?_toArray, List.getElem?_cons_succ, List.getElem?_cons_zero]; rfl) (by kernel_rfl) (by kernel_rfl) (by kernel_rfl) (by exact fun _ _ _ h => h) (Or.inl ⟨by rfl, ?_⟩) hOn ?_
      rotate_left
      focus (intro W hSW; go_simp; try with_reducible rfl)
      try simp only [Act.put, List.setIfInBounds_toArray, List.set_cons_zero, List.set_cons_succ]
      refine wpAnyH_take (i := 3) (v := ?_) (by simp only [List.getElem?_toArray, List.getElem?_cons_succ, List.getElem?_cons_zero]; rfl) (by kernel_rfl) (by kernel_rfl) (by kernel_rfl) (by exact fun _ _ _ h => h) (Or.inl ⟨by rfl, ?_⟩) hOn ?_
      rotate_left
      focus (intro W hSW; go_simp; try with_reducible rfl)
      try simp only [Act.put, List.setIfInBounds_toArray, List.set_cons_zero, List.set_cons_succ]
      refine wpAnyH_take (i := 5) (v := ?_) (by simp only [List.getElem?_toArray, List.getElem?_cons_succ, List.getElem?_cons_zero]; rfl) (by kernel_rfl) (by kernel_rfl) (by kernel_rfl) (by exact fun _ _ _ h => h) (Or.inl ⟨by rfl, ?_⟩) hOn ?_
      rotate_left
      focus (intro W hSW; go_simp; try with_reducible rfl)
      try simp only [Act.put, List.setIfInBounds_toArray, List.set_cons_zero, List.set_cons_succ]
      refine wpAnyH_take (i := 6) (v := ?_) (by simp only [List.getElem?_toArray, List.getElem?_cons_succ, List.getElem?_cons_zero]; rfl) (by kernel_rfl) (by kernel_rfl) (by kernel_rfl) (by exact fun _ _ _ h => h) (Or.inl ⟨by rfl, ?_⟩) hOn ?_
      rotate_left
      focus (intro W hSW; go_simp; try with_reducible rfl)
      try simp only [Act.put, List.setIfInBounds_toArray, List.set_cons_zero, List.set_cons_succ]
      refine wpAnyH_take (i := 7) (v := ?_) (by simp only [List.getElem?_toArray, List.getElem?_cons_succ, List.getElem?_cons_zero]; rfl) (by kernel_rfl) (by kernel_rfl) (by kernel_rfl) (by exact fun _ _ _ h => h) (Or.inl ⟨by rfl, ?_⟩) hOn ?_
      rotate_left
      focus (intro W hSW; go_simp; try with_reducible rfl)
      try simp only [Act.put, List.setIfInBounds_toArray, List.set_cons_zero, List.set_cons_succ]
      refine wpAnyH_take (i := 8) (v := ?_) (by simp only [List.getElem?_toArray, List.getElem?_cons_succ, List.getElem?_cons_zero]; rfl) (by kernel_rfl) (by kernel_rfl) (by kernel_rfl) (by exact fun _ _ _ h => h) (Or.inl ⟨by rfl, ?_⟩) hOn ?_
      rotate_left
      focus (intro W hSW; go_simp; try with_reducible rfl)
      try simp only [Act.put, List.setIfInBounds_toArray, List.set_cons_zero, List.set_cons_succ]
      refine wpAnyH_ready (rs := [4, 9]) (by kernel_rfl) (by simp) ?_
      refine AllReadyH.cons (by simp only [List.getElem?_toArray, List.getElem?_cons_succ, List.getElem?_cons_zero]; rfl) (fun Kz hKz => ?_) ?_
      rw [if_pos (by rfl)]
      (refine wp_load_mid 36 (.tmp 32) rfl b1 (o1 + k * 40) rfl x.list _ (r1.out _ hOn) hu rfl ix ?_)
      rw [← hX.out]
      have hS := hOn
      refine hKz.out _ _ (by first | exact hS | exact Below.trans hOn (Below.mono hnew (Below.size hOn))) (fun hNext => ?_)
      clear hKz Kz hOn
      have hOn := hNext
      clear hNext
      try clear hnew
      try clear hS
      try simp only [Act.put]
      refine wpAnyH_ready (rs := [9]) (by kernel_rfl) (by simp) ?_
      refine AllReadyH.cons (by simp only [List.getElem?_toArray, List.getElem?_cons_succ, List.getElem?_cons_zero]; rfl) (fun Kz hKz => ?_) AllReadyH.nil
      rw [if_pos (by rfl)]
      (refine wp_load_mid 36 (.tmp 37) rfl b2 (o2 + k * 40) rfl x.list _ (r2.out _ hOn) hu rfl ix ?_)
      rw [← hX.out]
      have hS := hOn
      refine hKz.out _ _ (by first | exact hS | exact Below.trans hOn (Below.mono hnew (Below.size hOn))) (fun hNext => ?_)
      clear hKz Kz hOn
      have hOn := hNext
      clear hNext
      try clear hnew
      try clear hS
      try simp only [Act.put]
      refine wpAnyH_take (i := 10) (v := ?_) (by simp only [List.getElem?_toArray, List.getElem?_cons_succ, List.getElem?_cons_zero]; rfl) (by kernel_rfl) (by kernel_rfl) (by kernel_rfl) (by exact fun _ _ _ h => h) (Or.inl ⟨by rfl, ?_⟩) hOn ?_
      rotate_left
      focus (intro W hSW; go_simp; try with_reducible rfl)
      try simp only [Act.put, List.setIfInBounds_toArray, List.set_cons_zero, List.set_cons_succ]
      refine wpAnyH_done (by kernel_rfl) ?_ _
      rotate_left
      refine AllReadyH.cons (by simp only [List.getElem?_toArray, List.getElem?_cons_succ, List.getElem?_cons_zero]; rfl) (fun Kz hKz => ?_) AllReadyH.nil
      rw [if_pos (by rfl)]
      (refine wp_load_mid 36 (.tmp 37) rfl b2 (o2 + k * 40) rfl x.list _ (r2.out _ hOn) hu rfl ix ?_)
      rw [← hX.out]
      have hS := hOn
      refine hKz.out _ _ (by first | exact hS | exact Below.trans hOn (Below.mono hnew (Below.size hOn))) (fun hNext => ?_)
      clear hKz Kz hOn
      have hOn := hNext
      clear hNext
      try clear hnew
      try clear hS
      try simp only [Act.put]
      refine wpAnyH_ready (rs := [4]) (by kernel_rfl) (by simp) ?_
      refine AllReadyH.cons (by simp only [List.getElem?_toArray, List.getElem?_cons_succ, List.getElem?_cons_zero]; rfl) (fun Kz hKz => ?_) AllReadyH.nil
      rw [if_pos (by rfl)]
      (refine wp_load_mid 36 (.tmp 32) rfl b1 (o1 + k * 40) rfl x.list _ (r1.out _ hOn) hu rfl ix ?_)
      rw [← hX.out]
      have hS := hOn
      refine hKz.out _ _ (by first | exact hS | exact Below.trans hOn (Below.mono hnew (Below.size hOn))) (fun hNext => ?_)
      clear hKz Kz hOn
      have hOn := hNext
      clear hNext
      try clear hnew
      try clear hS
      try simp only [Act.put]
      refine wpAnyH_take (i := 10) (v := ?_) (by simp only [List.getElem?_toArray, List.getElem?_cons_succ, List.getElem?_cons_zero]; rfl) (by kernel_rfl) (by kernel_rfl) (by kernel_rfl) (by exact fun _ _ _ h => h) (Or.inl ⟨by rfl, ?_⟩) hOn ?_
      rotate_left
      focus (intro W hSW; go_simp; try with_reducible rfl)
      try simp only [Act.put, List.setIfInBounds_toArray, List.set_cons_zero, List.set_cons_succ]
      refine wpAnyH_done (by kernel_rfl) ?_ _
      all_goals
        have hS2 := Lib.hid (hbw.out.trans (hOn.mono hbw.out.size))
        go_wp2_with fail
        refine hback.out _ _ (by kernel_rfl) ?_ ?_
        · simp only [List.getD_cons_zero, List.getD_cons_succ]
          exact ⟨k + 1, by omega, by go_num, hS2.out⟩
        · have h12 := h12.out
          simp only [List.getD_cons_zero, List.getD_cons_succ, h12, intOf]
          omega
    · obtain rfl : k = N := by omega
      clear c1 c2
      replace s10 := cell_of_block ((hbw.block _ (block_lt a1.out)).trans a1.out) 1
      replace s20 := cell_of_block ((hbw.block _ (block_lt a2.out)).trans a2.out) 1
      have hb1 := Lib.hid hbw
      clear hbw hback h12 hbB
      go_wp2_with fail
      refine wp_loopF [(false, 6), (true, 1), (false, 37), (true, 15)] _ [] (fun U wr => ∃ k : Nat, k ≤ V ∧ U 44 = .int .i64 (k : Nat) ∧ Below w2.heap.size w2 wr) (fun U _ => V - (intOf (U 44)).toNat) ?_ ?_
      · simp only [List.getD_cons_zero, List.getD_cons_succ]
        exact ⟨0, Nat.zero_le _, rfl, hb1.out⟩
      · clear hb1
        intro U wr hrel KK hback l' hl'
        obtain ⟨k, hk, h12, hbw⟩ := hrel
        simp only [fillS, popSeg, cond_true, cond_false, Nat.reduceAdd, h12] at hl'
        subst hl'
        replace h12 := Lib.hid h12
        have c1 := (hbw.block _ (block_lt a1.out)).trans a1.out
        have c2 := (hbw.block _ (block_lt a2.out)).trans a2.out
        have hbB := Lib.hid (hB.out.trans (hbw.mono hB.out.size))
        have s10 := cell_of_block c1 1
        have s20 := cell_of_block c2 1
        by_cases hlt : k < V
        · have hlt2 : (k : Int) < (V : Int) := by omega
          have hkN : k < m.vs.length := by rw [← hVl2.out]; exact hlt
          obtain ⟨b1, o1, rfl, hr1⟩ := (hV.out.below hbB.out (Nat.le_refl _)) k hkN
          obtain ⟨b2, o2, rfl, hr2⟩ := (hW.out.below hbB.out (Nat.le_refl _)) k hkN
          have ox := okV.out _ (List.getElem_mem hkN)
          generalize m.vs[k] = x at *
          have ix : (Tryd.prog.info? 38).map (·.size) = some x.list.length := by rw [(rfl : x.list.length = 3)]; kernel_rfl
          have hne : ∀ W, _ := fun W => neq_vdR x x ox ox W
          rw [decide_eq_true (rfl : x = x), Bool.not_true] at hne
          obtain ⟨X, hX⟩ : ∃ X, X = x.list.toArray := ⟨_, rfl⟩
          rw [← hX] at hne
          replace hX := Lib.hid hX
          replace hr1 := Lib.hid hr1
          replace hr2 := Lib.hid hr2
          replace hbw := Lib.hid hbw
          replace ox := Lib.hid ox
          clear c1 c2
          go_wp2_with fail
          have hd0 : Hid (Grown wr wr.drew) := Lib.hid (Grown.drew (Grown.refl wr))
          have k10 := fun W (h : Grown wr W) => (h.cell (World.block_lt_of_cell? wr _ s10)).trans s10
          have k20 := fun W (h : Grown wr W) => (h.cell (World.block_lt_of_cell? wr _ s20)).trans s20
          have r1 := Lib.hid (fun W (h : Grown wr W) => rangeAt_below hr1.out h (Nat.le_refl _))
          have r2 := Lib.hid (fun W (h : Grown wr W) => rangeAt_below hr2.out h (Nat.le_refl _))
          have hu := Tryd.underlying38
          refine wp_region_held_drew (S := (Grown wr)) (by kernel_rfl) hd0.out (fun hOn => ?_)
          generalize World.drew wr = wd at *
          refine wpAnyH_take (i := 0) (v := ?_) (by simp only [List.getElem?_toArray, List.getElem?_cons_zero]; rfl) (by kernel_rfl) (by kernel_rfl) (by kernel_rfl) (by exact fun _ _ _ h => h) (Or.inl ⟨by rfl, ?_⟩) hOn ?_
          rotate_left
          focus (intro W hSW; go_simp; try with_reducible rfl)
          try simp only [Act.put, List.setIfInBounds_toArray, List.set_cons_zero, List.set_cons_succ]
          refine wpAnyH_take (i := 1) (v := ?_) (by simp only [List.getElem?_toArray, List.getElem?_cons_succ, List.getElem?_cons_zero]; rfl) (by kernel_rfl) (by kernel_rfl) (by kernel_rfl) (by exact fun _ _ _ h => h) (Or.inl ⟨by rfl, ?_⟩) hOn ?_
          rotate_left
          focus (intro W hSW; go_simp; try with_reducible rfl)
          try simp only [Act.put, List.setIfInBounds_toArray, List.set_cons_zero, List.set_cons_succ]
          refine wpAnyH_take (i := 2) (v := ?_) (by simp only [List.getElem?_toArray, List.getElem?_cons_succ, List.getElem?_cons_zero]; rfl) (by kernel_rfl) (by kernel_rfl) (by kernel_rfl) (by exact fun _ _ _ h => h) (Or.inl ⟨by rfl, ?_⟩) hOn ?_
          rotate_left
          focus (intro W hSW; go_simp; try with_reducible rfl)
          try simp only [Act.put, List.setIfInBounds_toArray, List.set_cons_zero, List.set_cons_succ]
          refine wpAnyH_take (i := 3) (v := ?_) (by simp only [List.getElem?_toArray, List.getElem?_cons_succ, List.getElem?_cons_zero]; rfl) (by kernel_rfl) (by kernel_rfl) (by kernel_rfl) (by exact fun _ _ _ h => h) (Or.inl ⟨by rfl, ?_⟩) hOn ?_
          rotate_left
          focus (intro W hSW; go_simp; try with_reducible rfl)
          try simp only [Act.put, List.setIfInBounds_toArray, List.set_cons_zero, List.set_cons_succ]
          refine wpAnyH_take (i := 5) (v := ?_) (by simp only [List.getElem?_toArray, List.getElem?_cons_succ, List.getElem?_cons_zero]; rfl) (by kernel_rfl) (by kernel_rfl) (by kernel_rfl) (by exact fun _ _ _ h => h) (Or.inl ⟨by rfl, ?_⟩) hOn ?_
          rotate_left
          focus (intro W hSW; go_simp; try with_reducible rfl)
          try simp only [Act.put, List.setIfInBounds_toArray, List.set_cons_zero, List.set_cons_succ]
          refine wpAnyH_take (i := 6) (v := ?_) (by simp only [List.getElem?_toArray, List.getElem?_cons_succ, List.getElem?_cons_zero]; rfl) (by kernel_rfl) (by kernel_rfl) (by kernel_rfl) (by exact fun _ _ _ h => h) (Or.inl ⟨by rfl, ?_⟩) hOn ?_
          rotate_left
          focus (intro W hSW; go_simp; try with_reducible rfl)
          try simp only [Act.put, List.setIfInBounds_toArray, List.set_cons_zero, List.set_cons_succ]
          refine wpAnyH_take (i := 7) (v := ?_) (by simp only [List.getElem?_toArray, List.getElem?_cons_succ, List.getElem?_cons_zero]; rfl) (by kernel_rfl) (by kernel_rfl) (by kernel_rfl) (by exact fun _ _ _ h => h) (Or.inl ⟨by rfl, ?_⟩) hOn ?_
          rotate_left
          focus (intro W hSW; go_simp; try with_reducible rfl)
          try simp only [Act.put, List.setIfInBounds_toArray, List.set_cons_zero, List.set_cons_succ]
          refine wpAnyH_take (i := 8) (v := ?_) (by simp only [List.getElem?_toArray, List.getElem?_cons_succ, List.getElem?_cons_zero]; rfl) (by kernel_rfl) (by kernel_rfl) (by kernel_rfl) (by exact fun _ _ _ h => h) (Or.inl ⟨by rfl, ?_⟩) hOn ?_
          rotate_left
          focus (intro W hSW; go_simp; try with_reducible rfl)
          try simp only [Act.put, List.setIfInBounds_toArray, List.set_cons_zero, List.set_cons_succ]
          refine wpAnyH_ready (rs := [4, 9]) (by kernel_rfl) (by simp) ?_
          refine AllReadyH.cons (by simp only [List.getElem?_toArray, List.getElem?_cons_succ, List.getElem?_cons_zero]; rfl) (fun Kz hKz => ?_) ?_
          rw [if_pos (by rfl)]
          (refine wp_load_mid 38 (.tmp 50) rfl b1 (o1 + k * 3) rfl x.list _ (r1.out _ hOn) hu rfl ix ?_)
          rw [← hX.out]
          have hS := hOn
          refine hKz.out _ _ (by first | exact hS | exact Below.trans hOn (Below.mono hnew (Below.size hOn))) (fun hNext => ?_)
          clear hKz Kz hOn
          have hOn := hNext
          clear hNext
          try clear hnew
          try clear hS
          try simp only [Act.put]
          refine wpAnyH_ready (rs := [9]) (by kernel_rfl) (by simp) ?_
          refine AllReadyH.cons (by simp only [List.getElem?_toArray, List.getElem?_cons_succ, List.getElem?_cons_zero]; rfl) (fun Kz hKz => ?_) AllReadyH.nil
          rw [if_pos (by rfl)]
          (refine wp_load_mid 38 (.tmp 55) rfl b2 (o2 + k * 3) rfl x.list _ (r2.out _ hOn) hu rfl ix ?_)
          rw [← hX.out]
          have hS := hOn
          refine hKz.out _ _ (by first | exact hS | exact Below.trans hOn (Below.mono hnew (Below.size hOn))) (fun hNext => ?_)
          clear hKz Kz hOn
          have hOn := hNext
          clear hNext
          try clear hnew
          try clear hS
          try simp only [Act.put]
          refine wpAnyH_take (i := 10) (v := ?_) (by simp only [List.getElem?_toArray, List.getElem?_cons_succ, List.getElem?_cons_zero]; rfl) (by kernel_rfl) (by kernel_rfl) (by kernel_rfl) (by exact fun _ _ _ h => h) (Or.inl ⟨by rfl, ?_⟩) hOn ?_
          rotate_left
          focus (intro W hSW; go_simp; try with_reducible rfl)
          try simp only [Act.put, List.setIfInBounds_toArray, List.set_cons_zero, List.set_cons_succ]
          refine wpAnyH_done (by kernel_rfl) ?_ _
          rotate_left
          refine AllReadyH.cons (by simp only [List.getElem?_toArray, List.getElem?_cons_succ, List.getElem?_cons_zero]; rfl) (fun Kz hKz => ?_) AllReadyH.nil
          rw [if_pos (by rfl)]
          (refine wp_load_mid 38 (.tmp 55) rfl b2 (o2 + k * 3) rfl x.list _ (r2.out _ hOn) hu rfl ix ?_)
          rw [← hX.out]
          have hS := hOn
          refine hKz.out _ _ (by first | exact hS | exact Below.trans hOn (Below.mono hnew (Below.size hOn))) (fun hNext => ?_)
          clear hKz Kz hOn
          have hOn := hNext
          clear hNext
          try clear hnew
          try clear hS
          try simp only [Act.put]
          refine wpAnyH_ready (rs := [4]) (by kernel_rfl) (by simp) ?_
          refine AllReadyH.cons (by simp only [List.getElem?_toArray, List.getElem?_cons_succ, List.getElem?_cons_zero]; rfl) (fun Kz hKz => ?_) AllReadyH.nil
          rw [if_pos (by rfl)]
          (refine wp_load_mid 38 (.tmp 50) rfl b1 (o1 + k * 3) rfl x.list _ (r1.out _ hOn) hu rfl ix ?_)
          rw [← hX.out]
          have hS := hOn
          refine hKz.out _ _ (by first | exact hS | exact Below.trans hOn (Below.mono hnew (Below.size hOn))) (fun hNext => ?_)
          clear hKz Kz hOn
          have hOn := hNext
          clear hNext
          try clear hnew
          try clear hS
          try simp only [Act.put]
          refine wpAnyH_take (i := 10) (v := ?_) (by simp only [List.getElem?_toArray, List.getElem?_cons_succ, List.getElem?_cons_zero]; rfl) (by kernel_rfl) (by kernel_rfl) (by kernel_rfl) (by exact fun _ _ _ h => h) (Or.inl ⟨by rfl, ?_⟩) hOn ?_
          rotate_left
          focus (intro W hSW; go_simp; try with_reducible rfl)
          try simp only [Act.put, List.setIfInBounds_toArray, List.set_cons_zero, List.set_cons_succ]
          refine wpAnyH_done (by kernel_rfl) ?_ _
          all_goals
            have hS2 := Lib.hid (hbw.out.trans (hOn.mono hbw.out.size))
            go_wp2_with fail
            refine hback.out _ _ (by kernel_rfl) ?_ ?_
            · simp only [List.getD_cons_zero, List.getD_cons_succ]
              exact ⟨k + 1, by omega, by go_num, hS2.out⟩
            · have h12 := h12.out
              simp only [List.getD_cons_zero, List.getD_cons_succ, h12, intOf]
              omega
        · obtain rfl : k = V := by omega
          clear c1 c2
          replace hbw := Lib.hid hbw
          go_wp2_with fail
          go_ret
          exact ⟨rfl, hbB.out⟩
end Go.Proofs.YtpehdoepcpmnbaaDoor
