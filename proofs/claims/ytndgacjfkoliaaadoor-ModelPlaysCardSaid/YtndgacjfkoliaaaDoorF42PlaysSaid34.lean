/- bailee/baileeref34.Same of any two. Printed by gensame21.py. -/
import Derived.Test.YtndgacjfkoliaaaDoorF6PlaysSaid34
import Derived.Test.YtndgacjfkoliaaaDoorF22PlaysSaid34
import Derived.Test.YtndgacjfkoliaaaDoorF4PlaysSaid34
namespace Go.Proofs.YtndgacjfkoliaaaDoor
open Go.RowKit
set_option linter.unusedSimpArgs false
set_option linter.unusedVariables false

theorem same34_lists {α : Type} {xs ys : List α} (h : xs.length = ys.length) (he : ∀ j (h1 : j < xs.length) (h2 : j < ys.length), xs[j] = ys[j]) : xs = ys := List.ext_getElem h he
/-- Are two the same? -/
def same34B (m m' : Md) : Bool := decide (m.ns = m'.ns) && decide (m.vs = m'.vs)
theorem same34B_no1 {m m' : Md} (h : m.ns ≠ m'.ns) : same34B m m' = false := by unfold same34B; rw [decide_eq_false h]; rfl
theorem same34B_no2 {m m' : Md} (h : m.vs ≠ m'.vs) : same34B m m' = false := by unfold same34B; rw [decide_eq_false h, Bool.and_false]
set_option maxRecDepth 100000 in
set_option maxHeartbeats 6000000 in
theorem same34_any (va vb : Value) (m m' : Md) (w : World) (ha : ArgM w va m) (hb : ArgM w vb m') (l1 : m.ns.length ≤ 1000) (l2 : m.vs.length ≤ 1000) :
    Calls Tryd.prog 7 #[va, vb] w fun x w' => x = .returned (.bool (same34B m m')) ∧ Below w.heap.size w w' := by
  obtain ⟨⟨an, cn, av, cv, rfl, hN, hN1, hN2, hV, hV1, hV2⟩, okN, okV⟩ := ha
  obtain ⟨⟨bn, dn, bv, dv, rfl, hM, hM1, hM2, hW, hW1, hW2⟩, okM, okW⟩ := hb
  have f1 := fun (h : m.ns.length ≠ m'.ns.length) => same34B_no1 (m := m) (m' := m') (fun e => h (by rw [e]))
  have f2 := fun (h : m.vs.length ≠ m'.vs.length) => same34B_no2 (m := m) (m' := m') (fun e => h (by rw [e]))
  have f3 := fun k (h1 : k < m.ns.length) (h2 : k < m'.ns.length) (h : m.ns[k] ≠ m'.ns[k]) => same34B_no1 (m := m) (m' := m') (fun e => h (by simp only [e]))
  have f4 := fun k (h1 : k < m.vs.length) (h2 : k < m'.vs.length) (h : m.vs[k] ≠ m'.vs[k]) => same34B_no2 (m := m) (m' := m') (fun e => h (by simp only [e]))
  have f5 := fun (h1 : m.ns = m'.ns) (h2 : m.vs = m'.vs) => show same34B m m' = true by unfold same34B; rw [decide_eq_true h1, decide_eq_true h2]; rfl
  generalize same34B m m' = res at *
  obtain ⟨N, hNl⟩ : ∃ N, N = m.ns.length := ⟨_, rfl⟩
  obtain ⟨V, hVl⟩ : ∃ V, V = m.vs.length := ⟨_, rfl⟩
  obtain ⟨N', hNl'⟩ : ∃ N, N = m'.ns.length := ⟨_, rfl⟩
  obtain ⟨V', hVl'⟩ : ∃ V, V = m'.vs.length := ⟨_, rfl⟩
  rw [← hNl, ← hVl, ← hNl', ← hVl']
  rw [← hNl] at l1
  rw [← hVl] at l2
  obtain ⟨a1, a2, hs2, hB⟩ := boxes2 w #[.slice an N cn, .slice av V cv] #[.slice bn N' dn, .slice bv V' dv] 32 32 _ rfl
  obtain ⟨w2, hw2⟩ : ∃ w2, w2 = (w.alloc (.cells #[.slice an N cn, .slice av V cv] 32)).alloc (.cells #[.slice bn N' dn, .slice bv V' dv] 32) := ⟨_, rfl⟩
  have e10 := cell_of_block a1 0
  have e11 := cell_of_block a1 1
  have e20 := cell_of_block a2 0
  have e21 := cell_of_block a2 1
  have hbB0 := Lib.hid hB
  rw [← hw2] at a1 a2 hs2 hB
  have hNl2 := Lib.hid hNl
  have hVl2 := Lib.hid hVl
  have hNl2' := Lib.hid hNl'
  have hVl2' := Lib.hid hVl'

  replace hw2 := Lib.hid hw2
  replace a1 := Lib.hid a1
  replace a2 := Lib.hid a2
  replace hB := Lib.hid hB
  replace hs2 := Lib.hid hs2
  replace hN := Lib.hid hN
  replace hV := Lib.hid hV
  replace hM := Lib.hid hM
  replace hW := Lib.hid hW
  replace okN := Lib.hid okN
  replace okV := Lib.hid okV
  replace okM := Lib.hid okM
  replace okW := Lib.hid okW
  replace f1 := Lib.hid f1
  replace f2 := Lib.hid f2
  replace f3 := Lib.hid f3
  replace f4 := Lib.hid f4
  replace f5 := Lib.hid f5
  clear hN1 hN2 hV1 hV2 hM1 hM2 hW1 hW2 hNl hVl hNl' hVl'
  by_cases hNN : N = N'
  rotate_left
  · have hfe := Lib.hid (f1.out (by rw [← hNl2.out, ← hNl2'.out]; exact hNN))
    have hne : ((N : Int) != (N' : Int)) = true := by simpa using (show (N : Int) ≠ (N' : Int) by omega)
    clear hNN
    go_enter Tryd.func7, Tryd.ntmps7
    go_wp2_with fail
    go_ret
    exact ⟨congrArg (fun b => Ending.returned (.bool b)) hfe.out.symm, hbB0.out⟩
  subst hNN
  by_cases hVV : V = V'
  rotate_left
  · have hfe := Lib.hid (f2.out (by rw [← hVl2.out, ← hVl2'.out]; exact hVV))
    have hne : ((V : Int) != (V' : Int)) = true := by simpa using (show (V : Int) ≠ (V' : Int) by omega)
    clear hVV
    go_enter Tryd.func7, Tryd.ntmps7
    go_wp2_with fail
    go_ret
    exact ⟨congrArg (fun b => Ending.returned (.bool b)) hfe.out.symm, hbB0.out⟩
  subst hVV
  go_enter Tryd.func7, Tryd.ntmps7
  go_wp2_with fail
  rw [← hw2.out]
  clear e10 e11 e20 e21 hw2
  refine wp_loopF [(false, 5), (true, 1), (false, 20), (true, 15), (false, 18)] _ [] (fun U wr => ∃ k : Nat, k ≤ N ∧ U 26 = .int .i64 (k : Nat) ∧ Below w2.heap.size w2 wr ∧ ∀ j (h1 : j < m.ns.length) (h2 : j < m'.ns.length), j < k → m.ns[j] = m'.ns[j]) (fun U _ => N - (intOf (U 26)).toNat) ?_ ?_
  · simp only [List.getD_cons_zero, List.getD_cons_succ]
    exact ⟨0, Nat.zero_le _, rfl, Below.refl _ _, fun j _ _ hj => absurd hj (Nat.not_lt_zero _)⟩
  · skip
    intro U wr hrel KK hback l' hl'
    obtain ⟨k, hk, h12, hbw, hall⟩ := hrel
    simp only [fillS, popSeg, cond_true, cond_false, Nat.reduceAdd, h12] at hl'
    subst hl'
    replace h12 := Lib.hid h12
    replace hall := Lib.hid hall
    have c1 := (hbw.block _ (block_lt a1.out)).trans a1.out
    have c2 := (hbw.block _ (block_lt a2.out)).trans a2.out
    have hbB := Lib.hid (hB.out.trans (hbw.mono hB.out.size))
    have s10 := cell_of_block c1 0
    have s20 := cell_of_block c2 0
    by_cases hlt : k < N
    · have hlt2 : (k : Int) < (N : Int) := by omega
      have hkN : k < m.ns.length := by rw [← hNl2.out]; exact hlt
      have hkM : k < m'.ns.length := by rw [← hNl2'.out]; exact hlt
      obtain ⟨b1, o1, rfl, hr1⟩ := (hN.out.below hbB.out (Nat.le_refl _)) k hkN
      obtain ⟨b2, o2, rfl, hr2⟩ := (hM.out.below hbB.out (Nat.le_refl _)) k hkM
      have ox := okN.out _ (List.getElem_mem hkN)
      have oy := okM.out _ (List.getElem_mem hkM)
      have hno := fun (e : m.ns[k] ≠ m'.ns[k]) => f3.out k hkN hkM e
      have hstep := fun (e : m.ns[k] = m'.ns[k]) => show ∀ j (h1 : j < m.ns.length) (h2 : j < m'.ns.length), j < k + 1 → m.ns[j] = m'.ns[j] from fun j h1 h2 hjk => by
        by_cases hjk2 : j < k
        · exact hall.out j h1 h2 hjk2
        · obtain rfl : j = k := by omega
          exact e
      generalize m.ns[k] = x at *
      generalize m'.ns[k] = y at *
      have ix : (Tryd.prog.info? 67).map (·.size) = some x.list.length := by rw [Nm.list_length ox.f]; kernel_rfl
      have iy : (Tryd.prog.info? 67).map (·.size) = some y.list.length := by rw [Nm.list_length oy.f]; kernel_rfl
      have hne : ∀ W, _ := fun W => neq_nmR x y ox oy W
      obtain ⟨X, hX⟩ : ∃ X, X = x.list.toArray := ⟨_, rfl⟩
      obtain ⟨Y, hY⟩ : ∃ Y, Y = y.list.toArray := ⟨_, rfl⟩
      rw [← hX, ← hY] at hne
      replace hX := Lib.hid hX
      replace hY := Lib.hid hY
      replace hr1 := Lib.hid hr1
      replace hr2 := Lib.hid hr2
      replace hbw := Lib.hid hbw
      replace ox := Lib.hid ox
      replace oy := Lib.hid oy
      replace hno := Lib.hid hno
      replace hstep := Lib.hid hstep
      obtain ⟨bb, hbb⟩ : ∃ bb, bb = decide (x = y) := ⟨_, rfl⟩
      rw [← hbb] at hne
      replace hbb := Lib.hid hbb
      clear c1 c2
      go_wp2_with fail
      have hd0 : Hid (Grown wr wr.drew) := Lib.hid (Grown.drew (Grown.refl wr))
      have k10 := fun W (h : Grown wr W) => (h.cell (World.block_lt_of_cell? wr _ s10)).trans s10
      have k20 := fun W (h : Grown wr W) => (h.cell (World.block_lt_of_cell? wr _ s20)).trans s20
      have r1 := Lib.hid (fun W (h : Grown wr W) => rangeAt_below hr1.out h (Nat.le_refl _))
      have r2 := Lib.hid (fun W (h : Grown wr W) => rangeAt_below hr2.out h (Nat.le_refl _))
      have hu := Tryd.underlying67
      have hld1 := fun W (h : Grown wr W) => run_loadAt_mid (P := Tryd.prog) W b1 (o1 + k * 40) 67 x.list _ (r1.out W h) hu rfl ix
      have hld2 := fun W (h : Grown wr W) => run_loadAt_mid (P := Tryd.prog) W b2 (o2 + k * 40) 67 y.list _ (r2.out W h) hu rfl iy
      rw [← hX.out] at hld1
      rw [← hY.out] at hld2
      refine wp_region_held_drew (S := (Grown wr)) (by kernel_rfl) hd0.out (fun hOn => ?_)
      generalize World.drew wr = wd at *
      refine wpAnyH_take (i := 0) (v := ?_) (by simp only [List.getElem?_toArray, List.getElem?_cons_zero]; rfl) (by kernel_rfl) (by kernel_rfl) (by kernel_rfl) (by exact fun _ _ _ h => h) (Or.inl ⟨by rfl, ?_⟩) hOn ?_
      rotate_left
      focus (intro W hSW; go_simp; try with_reducible rfl)
      try simp only [Act.put, List.setIfInBounds_toArray, List.set_cons_zero, List.set_cons_succ]
      refine wpAnyH_take (i := 1) (v := ?_) (by simp only [List.getElem?_toArray, List.getElem?_cons_succ, List.getElem?_cons_zero]; rfl) (by kernel_rfl) (by kernel_rfl) (by kernel_rfl) (by exact fun _ _ _ h => h) (Or.inl ⟨by rfl, ?_⟩) hOn ?_
      rotate_left
      focus (intro W hSW; go_simp; try with_reducible rfl)
      try simp only [Act.put, List.setIfInBounds_toArray, List.set_cons_zero, List.set_cons_succ]
      refine wpAnyH_take (i := 2) (v := ?_) (by simp only [List.getElem?_toArray, List.getElem?_cons_succ, List.getElem?_cons_zero]; rfl) (by kernel_rfl) (by kernel_rfl) (by kernel_rfl) (by exact fun _ _ _ h => h) (Or.inl ⟨by rfl, ?_⟩) hOn ?_
      rotate_left
      focus (intro W hSW; go_simp; try with_reducible rfl)
      try simp only [Act.put, List.setIfInBounds_toArray, List.set_cons_zero, List.set_cons_succ]
      refine wpAnyH_take (i := 3) (v := ?_) (by simp only [List.getElem?_toArray, List.getElem?_cons_succ, List.getElem?_cons_zero]; rfl) (by kernel_rfl) (by kernel_rfl) (by kernel_rfl) (by exact fun _ _ _ h => h) (Or.inl ⟨by rfl, ?_⟩) hOn ?_
      rotate_left
      focus (intro W hSW; go_simp; try with_reducible rfl)
      try simp only [Act.put, List.setIfInBounds_toArray, List.set_cons_zero, List.set_cons_succ]
      refine wpAnyH_take (i := 5) (v := ?_) (by simp only [List.getElem?_toArray, List.getElem?_cons_succ, List.getElem?_cons_zero]; rfl) (by kernel_rfl) (by kernel_rfl) (by kernel_rfl) (by exact fun _ _ _ h => h) (Or.inl ⟨by rfl, ?_⟩) hOn ?_
      rotate_left
      focus (intro W hSW; go_simp; try with_reducible rfl)
      try simp only [Act.put, List.setIfInBounds_toArray, List.set_cons_zero, List.set_cons_succ]
      refine wpAnyH_take (i := 6) (v := ?_) (by simp only [List.getElem?_toArray, List.getElem?_cons_succ, List.getElem?_cons_zero]; rfl) (by kernel_rfl) (by kernel_rfl) (by kernel_rfl) (by exact fun _ _ _ h => h) (Or.inl ⟨by rfl, ?_⟩) hOn ?_
      rotate_left
      focus (intro W hSW; go_simp; try with_reducible rfl)
      try simp only [Act.put, List.setIfInBounds_toArray, List.set_cons_zero, List.set_cons_succ]
      refine wpAnyH_take (i := 7) (v := ?_) (by simp only [List.getElem?_toArray, List.getElem?_cons_succ, List.getElem?_cons_zero]; rfl) (by kernel_rfl) (by kernel_rfl) (by kernel_rfl) (by exact fun _ _ _ h => h) (Or.inl ⟨by rfl, ?_⟩) hOn ?_
      rotate_left
      focus (intro W hSW; go_simp; try with_reducible rfl)
      try simp only [Act.put, List.setIfInBounds_toArray, List.set_cons_zero, List.set_cons_succ]
      refine wpAnyH_take (i := 8) (v := ?_) (by simp only [List.getElem?_toArray, List.getElem?_cons_succ, List.getElem?_cons_zero]; rfl) (by kernel_rfl) (by kernel_rfl) (by kernel_rfl) (by exact fun _ _ _ h => h) (Or.inl ⟨by rfl, ?_⟩) hOn ?_
      rotate_left
      focus (intro W hSW; go_simp; try with_reducible rfl)
      try simp only [Act.put, List.setIfInBounds_toArray, List.set_cons_zero, List.set_cons_succ]
      refine wpAnyH_ready (rs := [4, 9]) (by kernel_rfl) (by simp) ?_
      refine AllReadyH.cons (by simp only [List.getElem?_toArray, List.getElem?_cons_succ, List.getElem?_cons_zero]; rfl) (fun Kz hKz => ?_) ?_
      rw [if_pos (by rfl)]
      (refine wp_load_mid 67 (.tmp 32) rfl b1 (o1 + k * 40) rfl x.list _ (r1.out _ hOn) hu rfl ix ?_)
      rw [← hX.out]
      have hS := hOn
      refine hKz.out _ _ (by first | exact hS | exact Below.trans hOn (Below.mono hnew (Below.size hOn))) (fun hNext => ?_)
      clear hKz Kz hOn
      have hOn := hNext
      clear hNext
      try clear hnew
      try clear hS
      try simp only [Act.put]
      refine wpAnyH_ready (rs := [9]) (by kernel_rfl) (by simp) ?_
      refine AllReadyH.cons (by simp only [List.getElem?_toArray, List.getElem?_cons_succ, List.getElem?_cons_zero]; rfl) (fun Kz hKz => ?_) AllReadyH.nil
      rw [if_pos (by rfl)]
      (refine wp_load_mid 67 (.tmp 37) rfl b2 (o2 + k * 40) rfl y.list _ (r2.out _ hOn) hu rfl iy ?_)
      rw [← hY.out]
      have hS := hOn
      refine hKz.out _ _ (by first | exact hS | exact Below.trans hOn (Below.mono hnew (Below.size hOn))) (fun hNext => ?_)
      clear hKz Kz hOn
      have hOn := hNext
      clear hNext
      try clear hnew
      try clear hS
      try simp only [Act.put]
      refine wpAnyH_take (i := 10) (v := ?_) (by simp only [List.getElem?_toArray, List.getElem?_cons_succ, List.getElem?_cons_zero]; rfl) (by kernel_rfl) (by kernel_rfl) (by kernel_rfl) (by exact fun _ _ _ h => h) (Or.inl ⟨by rfl, ?_⟩) hOn ?_
      rotate_left
      focus (intro W hSW; go_simp; try with_reducible rfl)
      try simp only [Act.put, List.setIfInBounds_toArray, List.set_cons_zero, List.set_cons_succ]
      refine wpAnyH_done (by kernel_rfl) ?_ _
      rotate_left
      refine AllReadyH.cons (by simp only [List.getElem?_toArray, List.getElem?_cons_succ, List.getElem?_cons_zero]; rfl) (fun Kz hKz => ?_) AllReadyH.nil
      rw [if_pos (by rfl)]
      (refine wp_load_mid 67 (.tmp 37) rfl b2 (o2 + k * 40) rfl y.list _ (r2.out _ hOn) hu rfl iy ?_)
      rw [← hY.out]
      have hS := hOn
      refine hKz.out _ _ (by first | exact hS | exact Below.trans hOn (Below.mono hnew (Below.size hOn))) (fun hNext => ?_)
      clear hKz Kz hOn
      have hOn := hNext
      clear hNext
      try clear hnew
      try clear hS
      try simp only [Act.put]
      refine wpAnyH_ready (rs := [4]) (by kernel_rfl) (by simp) ?_
      refine AllReadyH.cons (by simp only [List.getElem?_toArray, List.getElem?_cons_succ, List.getElem?_cons_zero]; rfl) (fun Kz hKz => ?_) AllReadyH.nil
      rw [if_pos (by rfl)]
      (refine wp_load_mid 67 (.tmp 32) rfl b1 (o1 + k * 40) rfl x.list _ (r1.out _ hOn) hu rfl ix ?_)
      rw [← hX.out]
      have hS := hOn
      refine hKz.out _ _ (by first | exact hS | exact Below.trans hOn (Below.mono hnew (Below.size hOn))) (fun hNext => ?_)
      clear hKz Kz hOn
      have hOn := hNext
      clear hNext
      try clear hnew
      try clear hS
      try simp only [Act.put]
      refine wpAnyH_take (i := 10) (v := ?_) (by simp only [List.getElem?_toArray, List.getElem?_cons_succ, List.getElem?_cons_zero]; rfl) (by kernel_rfl) (by kernel_rfl) (by kernel_rfl) (by exact fun _ _ _ h => h) (Or.inl ⟨by rfl, ?_⟩) hOn ?_
      rotate_left
      focus (intro W hSW; go_simp; try with_reducible rfl)
      try simp only [Act.put, List.setIfInBounds_toArray, List.set_cons_zero, List.set_cons_succ]
      refine wpAnyH_done (by kernel_rfl) ?_ _
      all_goals
        have hS2 := Lib.hid (hbw.out.trans (hOn.mono hbw.out.size))
        have hS3 := Lib.hid (hB.out.trans (hS2.out.mono hB.out.size))
        cases bb with
        | true =>
          have hxy : x = y := by simpa using hbb.out.symm
          replace hxy := Lib.hid hxy
          go_wp2_with fail
          refine hback.out _ _ (by kernel_rfl) ?_ ?_
          · simp only [List.getD_cons_zero, List.getD_cons_succ]
            exact ⟨k + 1, by omega, by go_num, hS2.out, hstep.out hxy.out⟩
          · have h12 := h12.out
            simp only [List.getD_cons_zero, List.getD_cons_succ, h12, intOf]
            omega
        | false =>
          have hxy : x ≠ y := by simpa using hbb.out.symm
          have hfe := Lib.hid (hno.out hxy)
          clear hxy
          go_wp2_with fail
          go_ret
          exact ⟨congrArg (fun b => Ending.returned (.bool b)) hfe.out.symm, hS3.out⟩
    · obtain rfl : k = N := by omega
      have hsame0 := Lib.hid (same34_lists (by rw [← hNl2.out, ← hNl2'.out]) (fun j h1 h2 => hall.out j h1 h2 (by rw [hNl2.out]; exact h1)))
      clear c1 c2
      replace s10 := cell_of_block ((hbw.block _ (block_lt a1.out)).trans a1.out) 1
      replace s20 := cell_of_block ((hbw.block _ (block_lt a2.out)).trans a2.out) 1
      have hb1 := Lib.hid hbw
      clear hbw hback h12 hbB hall
      go_wp2_with fail
      refine wp_loopF [(false, 6), (true, 1), (false, 37), (true, 15)] _ [] (fun U wr => ∃ k : Nat, k ≤ V ∧ U 44 = .int .i64 (k : Nat) ∧ Below w2.heap.size w2 wr ∧ ∀ j (h1 : j < m.vs.length) (h2 : j < m'.vs.length), j < k → m.vs[j] = m'.vs[j]) (fun U _ => V - (intOf (U 44)).toNat) ?_ ?_
      · simp only [List.getD_cons_zero, List.getD_cons_succ]
        exact ⟨0, Nat.zero_le _, rfl, hb1.out, fun j _ _ hj => absurd hj (Nat.not_lt_zero _)⟩
      · clear hb1
        intro U wr hrel KK hback l' hl'
        obtain ⟨k, hk, h12, hbw, hall⟩ := hrel
        simp only [fillS, popSeg, cond_true, cond_false, Nat.reduceAdd, h12] at hl'
        subst hl'
        replace h12 := Lib.hid h12
        replace hall := Lib.hid hall
        have c1 := (hbw.block _ (block_lt a1.out)).trans a1.out
        have c2 := (hbw.block _ (block_lt a2.out)).trans a2.out
        have hbB := Lib.hid (hB.out.trans (hbw.mono hB.out.size))
        have s10 := cell_of_block c1 1
        have s20 := cell_of_block c2 1
        by_cases hlt : k < V
        · have hlt2 : (k : Int) < (V : Int) := by omega
          have hkN : k < m.vs.length := by rw [← hVl2.out]; exact hlt
          have hkM : k < m'.vs.length := by rw [← hVl2'.out]; exact hlt
          obtain ⟨b1, o1, rfl, hr1⟩ := (hV.out.below hbB.out (Nat.le_refl _)) k hkN
          obtain ⟨b2, o2, rfl, hr2⟩ := (hW.out.below hbB.out (Nat.le_refl _)) k hkM
          have ox := okV.out _ (List.getElem_mem hkN)
          have oy := okW.out _ (List.getElem_mem hkM)
          have hno := fun (e : m.vs[k] ≠ m'.vs[k]) => f4.out k hkN hkM e
          have hstep := fun (e : m.vs[k] = m'.vs[k]) => show ∀ j (h1 : j < m.vs.length) (h2 : j < m'.vs.length), j < k + 1 → m.vs[j] = m'.vs[j] from fun j h1 h2 hjk => by
            by_cases hjk2 : j < k
            · exact hall.out j h1 h2 hjk2
            · obtain rfl : j = k := by omega
              exact e
          generalize m.vs[k] = x at *
          generalize m'.vs[k] = y at *
          have ix : (Tryd.prog.info? 46).map (·.size) = some x.list.length := by rw [(rfl : x.list.length = 3)]; kernel_rfl
          have iy : (Tryd.prog.info? 46).map (·.size) = some y.list.length := by rw [(rfl : y.list.length = 3)]; kernel_rfl
          have hne : ∀ W, _ := fun W => neq_vdR x y ox oy W
          obtain ⟨X, hX⟩ : ∃ X, X = x.list.toArray := ⟨_, rfl⟩
          obtain ⟨Y, hY⟩ : ∃ Y, Y = y.list.toArray := ⟨_, rfl⟩
          rw [← hX, ← hY] at hne
          replace hX := Lib.hid hX
          replace hY := Lib.hid hY
          replace hr1 := Lib.hid hr1
          replace hr2 := Lib.hid hr2
          replace hbw := Lib.hid hbw
          replace ox := Lib.hid ox
          replace oy := Lib.hid oy
          replace hno := Lib.hid hno
          replace hstep := Lib.hid hstep
          obtain ⟨bb, hbb⟩ : ∃ bb, bb = decide (x = y) := ⟨_, rfl⟩
          rw [← hbb] at hne
          replace hbb := Lib.hid hbb
          clear c1 c2
          go_wp2_with fail
          have hd0 : Hid (Grown wr wr.drew) := Lib.hid (Grown.drew (Grown.refl wr))
          have k10 := fun W (h : Grown wr W) => (h.cell (World.block_lt_of_cell? wr _ s10)).trans s10
          have k20 := fun W (h : Grown wr W) => (h.cell (World.block_lt_of_cell? wr _ s20)).trans s20
          have r1 := Lib.hid (fun W (h : Grown wr W) => rangeAt_below hr1.out h (Nat.le_refl _))
          have r2 := Lib.hid (fun W (h : Grown wr W) => rangeAt_below hr2.out h (Nat.le_refl _))
          have hu := Tryd.underlying46
          have hld1 := fun W (h : Grown wr W) => run_loadAt_mid (P := Tryd.prog) W b1 (o1 + k * 3) 46 x.list _ (r1.out W h) hu rfl ix
          have hld2 := fun W (h : Grown wr W) => run_loadAt_mid (P := Tryd.prog) W b2 (o2 + k * 3) 46 y.list _ (r2.out W h) hu rfl iy
          rw [← hX.out] at hld1
          rw [← hY.out] at hld2
          refine wp_region_held_drew (S := (Grown wr)) (by kernel_rfl) hd0.out (fun hOn => ?_)
          generalize World.drew wr = wd at *
          refine wpAnyH_take (i := 0) (v := ?_) (by simp only [List.getElem?_toArray, List.getElem?_cons_zero]; rfl) (by kernel_rfl) (by kernel_rfl) (by kernel_rfl) (by exact fun _ _ _ h => h) (Or.inl ⟨by rfl, ?_⟩) hOn ?_
          rotate_left
          focus (intro W hSW; go_simp; try with_reducible rfl)
          try simp only [Act.put, List.setIfInBounds_toArray, List.set_cons_zero, List.set_cons_succ]
          refine wpAnyH_take (i := 1) (v := ?_) (by simp only [List.getElem?_toArray, List.getElem?_cons_succ, List.getElem?_cons_zero]; rfl) (by kernel_rfl) (by kernel_rfl) (by kernel_rfl) (by exact fun _ _ _ h => h) (Or.inl ⟨by rfl, ?_⟩) hOn ?_
          rotate_left
          focus (intro W hSW; go_simp; try with_reducible rfl)
          try simp only [Act.put, List.setIfInBounds_toArray, List.set_cons_zero, List.set_cons_succ]
          refine wpAnyH_take (i := 2) (v := ?_) (by simp only [List.getElem?_toArray, List.getElem?_cons_succ, List.getElem?_cons_zero]; rfl) (by kernel_rfl) (by kernel_rfl) (by kernel_rfl) (by exact fun _ _ _ h => h) (Or.inl ⟨by rfl, ?_⟩) hOn ?_
          rotate_left
          focus (intro W hSW; go_simp; try with_reducible rfl)
          try simp only [Act.put, List.setIfInBounds_toArray, List.set_cons_zero, List.set_cons_succ]
          refine wpAnyH_take (i := 3) (v := ?_) (by simp only [List.getElem?_toArray, List.getElem?_cons_succ, List.getElem?_cons_zero]; rfl) (by kernel_rfl) (by kernel_rfl) (by kernel_rfl) (by exact fun _ _ _ h => h) (Or.inl ⟨by rfl, ?_⟩) hOn ?_
          rotate_left
          focus (intro W hSW; go_simp; try with_reducible rfl)
          try simp only [Act.put, List.setIfInBounds_toArray, List.set_cons_zero, List.set_cons_succ]
          refine wpAnyH_take (i := 5) (v := ?_) (by simp only [List.getElem?_toArray, List.getElem?_cons_succ, List.getElem?_cons_zero]; rfl) (by kernel_rfl) (by kernel_rfl) (by kernel_rfl) (by exact fun _ _ _ h => h) (Or.inl ⟨by rfl, ?_⟩) hOn ?_
          rotate_left
          focus (intro W hSW; go_simp; try with_reducible rfl)
          try simp only [Act.put, List.setIfInBounds_toArray, List.set_cons_zero, List.set_cons_succ]
          refine wpAnyH_take (i := 6) (v := ?_) (by simp only [List.getElem?_toArray, List.getElem?_cons_succ, List.getElem?_cons_zero]; rfl) (by kernel_rfl) (by kernel_rfl) (by kernel_rfl) (by exact fun _ _ _ h => h) (Or.inl ⟨by rfl, ?_⟩) hOn ?_
          rotate_left
          focus (intro W hSW; go_simp; try with_reducible rfl)
          try simp only [Act.put, List.setIfInBounds_toArray, List.set_cons_zero, List.set_cons_succ]
          refine wpAnyH_take (i := 7) (v := ?_) (by simp only [List.getElem?_toArray, List.getElem?_cons_succ, List.getElem?_cons_zero]; rfl) (by kernel_rfl) (by kernel_rfl) (by kernel_rfl) (by exact fun _ _ _ h => h) (Or.inl ⟨by rfl, ?_⟩) hOn ?_
          rotate_left
          focus (intro W hSW; go_simp; try with_reducible rfl)
          try simp only [Act.put, List.setIfInBounds_toArray, List.set_cons_zero, List.set_cons_succ]
          refine wpAnyH_take (i := 8) (v := ?_) (by simp only [List.getElem?_toArray, List.getElem?_cons_succ, List.getElem?_cons_zero]; rfl) (by kernel_rfl) (by kernel_rfl) (by kernel_rfl) (by exact fun _ _ _ h => h) (Or.inl ⟨by rfl, ?_⟩) hOn ?_
          rotate_left
          focus (intro W hSW; go_simp; try with_reducible rfl)
          try simp only [Act.put, List.setIfInBounds_toArray, List.set_cons_zero, List.set_cons_succ]
          refine wpAnyH_ready (rs := [4, 9]) (by kernel_rfl) (by simp) ?_
          refine AllReadyH.cons (by simp only [List.getElem?_toArray, List.getElem?_cons_succ, List.getElem?_cons_zero]; rfl) (fun Kz hKz => ?_) ?_
          rw [if_pos (by rfl)]
          (refine wp_load_mid 46 (.tmp 50) rfl b1 (o1 + k * 3) rfl x.list _ (r1.out _ hOn) hu rfl ix ?_)
          rw [← hX.out]
          have hS := hOn
          refine hKz.out _ _ (by first | exact hS | exact Below.trans hOn (Below.mono hnew (Below.size hOn))) (fun hNext => ?_)
          clear hKz Kz hOn
          have hOn := hNext
          clear hNext
          try clear hnew
          try clear hS
          try simp only [Act.put]
          refine wpAnyH_ready (rs := [9]) (by kernel_rfl) (by simp) ?_
          refine AllReadyH.cons (by simp only [List.getElem?_toArray, List.getElem?_cons_succ, List.getElem?_cons_zero]; rfl) (fun Kz hKz => ?_) AllReadyH.nil
          rw [if_pos (by rfl)]
          (refine wp_load_mid 46 (.tmp 55) rfl b2 (o2 + k * 3) rfl y.list _ (r2.out _ hOn) hu rfl iy ?_)
          rw [← hY.out]
          have hS := hOn
          refine hKz.out _ _ (by first | exact hS | exact Below.trans hOn (Below.mono hnew (Below.size hOn))) (fun hNext => ?_)
          clear hKz Kz hOn
          have hOn := hNext
          clear hNext
          try clear hnew
          try clear hS
          try simp only [Act.put]
          refine wpAnyH_take (i := 10) (v := ?_) (by simp only [List.getElem?_toArray, List.getElem?_cons_succ, List.getElem?_cons_zero]; rfl) (by kernel_rfl) (by kernel_rfl) (by kernel_rfl) (by exact fun _ _ _ h => h) (Or.inl ⟨by rfl, ?_⟩) hOn ?_
          rotate_left
          focus (intro W hSW; go_simp; try with_reducible rfl)
          try simp only [Act.put, List.setIfInBounds_toArray, List.set_cons_zero, List.set_cons_succ]
          refine wpAnyH_done (by kernel_rfl) ?_ _
          rotate_left
          refine AllReadyH.cons (by simp only [List.getElem?_toArray, List.getElem?_cons_succ, List.getElem?_cons_zero]; rfl) (fun Kz hKz => ?_) AllReadyH.nil
          rw [if_pos (by rfl)]
          (refine wp_load_mid 46 (.tmp 55) rfl b2 (o2 + k * 3) rfl y.list _ (r2.out _ hOn) hu rfl iy ?_)
          rw [← hY.out]
          have hS := hOn
          refine hKz.out _ _ (by first | exact hS | exact Below.trans hOn (Below.mono hnew (Below.size hOn))) (fun hNext => ?_)
          clear hKz Kz hOn
          have hOn := hNext
          clear hNext
          try clear hnew
          try clear hS
          try simp only [Act.put]
          refine wpAnyH_ready (rs := [4]) (by kernel_rfl) (by simp) ?_
          refine AllReadyH.cons (by simp only [List.getElem?_toArray, List.getElem?_cons_succ, List.getElem?_cons_zero]; rfl) (fun Kz hKz => ?_) AllReadyH.nil
          rw [if_pos (by rfl)]
          (refine wp_load_mid 46 (.tmp 50) rfl b1 (o1 + k * 3) rfl x.list _ (r1.out _ hOn) hu rfl ix ?_)
          rw [← hX.out]
          have hS := hOn
          refine hKz.out _ _ (by first | exact hS | exact Below.trans hOn (Below.mono hnew (Below.size hOn))) (fun hNext => ?_)
          clear hKz Kz hOn
          have hOn := hNext
          clear hNext
          try clear hnew
          try clear hS
          try simp only [Act.put]
          refine wpAnyH_take (i := 10) (v := ?_) (by simp only [List.getElem?_toArray, List.getElem?_cons_succ, List.getElem?_cons_zero]; rfl) (by kernel_rfl) (by kernel_rfl) (by kernel_rfl) (by exact fun _ _ _ h => h) (Or.inl ⟨by rfl, ?_⟩) hOn ?_
          rotate_left
          focus (intro W hSW; go_simp; try with_reducible rfl)
          try simp only [Act.put, List.setIfInBounds_toArray, List.set_cons_zero, List.set_cons_succ]
          refine wpAnyH_done (by kernel_rfl) ?_ _
          all_goals
            have hS2 := Lib.hid (hbw.out.trans (hOn.mono hbw.out.size))
            have hS3 := Lib.hid (hB.out.trans (hS2.out.mono hB.out.size))
            cases bb with
            | true =>
              have hxy : x = y := by simpa using hbb.out.symm
              replace hxy := Lib.hid hxy
              go_wp2_with fail
              refine hback.out _ _ (by kernel_rfl) ?_ ?_
              · simp only [List.getD_cons_zero, List.getD_cons_succ]
                exact ⟨k + 1, by omega, by go_num, hS2.out, hstep.out hxy.out⟩
              · have h12 := h12.out
                simp only [List.getD_cons_zero, List.getD_cons_succ, h12, intOf]
                omega
            | false =>
              have hxy : x ≠ y := by simpa using hbb.out.symm
              have hfe := Lib.hid (hno.out hxy)
              clear hxy
              go_wp2_with fail
              go_ret
              exact ⟨congrArg (fun b => Ending.returned (.bool b)) hfe.out.symm, hS3.out⟩
        · obtain rfl : k = V := by omega
          have hsame1 := Lib.hid (same34_lists (by rw [← hVl2.out, ← hVl2'.out]) (fun j h1 h2 => hall.out j h1 h2 (by rw [hVl2.out]; exact h1)))
          clear c1 c2
          replace hbw := Lib.hid hbw
          go_wp2_with fail
          go_ret
          exact ⟨congrArg (fun b => Ending.returned (.bool b)) (f5.out hsame0.out hsame1.out).symm, hbB.out⟩
end Go.Proofs.YtndgacjfkoliaaaDoor
