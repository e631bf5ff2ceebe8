/- slices.Equal of two rows of structs. Printed by genequal.py. -/
import Derived.Test.YtndgacjfkoliaaaDoorF5PlaysSaid34
import Derived.Test.YtndgacjfkoliaaaDoorF4PlaysSaid34
import Derived.Deep.MidRow
namespace Go.Proofs.YtndgacjfkoliaaaDoor
open Go.RowKit
set_option linter.unusedSimpArgs false
set_option linter.unusedVariables false

set_option maxRecDepth 100000 in
set_option maxHeartbeats 4000000 in
theorem equalN_any (a b : Option Addr) (c d : Nat) (xs ys : List Nm) (okX : ∀ x ∈ xs, x.Ok) (okY : ∀ y ∈ ys, y.Ok) (w : World) (hX : RowAt Nm.list 40 w a xs) (hY : RowAt Nm.list 40 w b ys) (l1 : xs.length ≤ 100000) :
    Calls Tryd.prog 23 #[.slice a xs.length c, .slice b ys.length d] w fun x w' => x = .returned (.bool (decide (xs = ys))) ∧ Below w.heap.size w w' := by
  have f1 := fun (h : xs.length ≠ ys.length) => decide_eq_false (p := xs = ys) (fun e => h (by rw [e]))
  have f3 := fun k (h1 : k < xs.length) (h2 : k < ys.length) (h : xs[k] ≠ ys[k]) => decide_eq_false (p := xs = ys) (fun e => h (by simp only [e]))
  have f5 := fun (h : xs.length = ys.length) (he : ∀ j (h1 : j < xs.length) (h2 : j < ys.length), xs[j] = ys[j]) => decide_eq_true (p := xs = ys) (List.ext_getElem h he)
  generalize decide (xs = ys) = res at *
  obtain ⟨N, hNl⟩ : ∃ N, N = xs.length := ⟨_, rfl⟩
  obtain ⟨N', hNl'⟩ : ∃ N, N = ys.length := ⟨_, rfl⟩
  rw [← hNl, ← hNl']
  rw [← hNl] at l1
  replace f1 := Lib.hid f1
  replace f3 := Lib.hid f3
  replace f5 := Lib.hid f5
  replace hX := Lib.hid hX
  replace hY := Lib.hid hY
  replace okX := Lib.hid okX
  replace okY := Lib.hid okY
  replace hNl := Lib.hid hNl
  replace hNl' := Lib.hid hNl'
  by_cases hNN : N = N'
  rotate_left
  · have hfe := Lib.hid (f1.out (by rw [← hNl.out, ← hNl'.out]; exact hNN))
    have hne : ((N : Int) != (N' : Int)) = true := by simpa using (show (N : Int) ≠ (N' : Int) by omega)
    clear hNN
    go_enter Tryd.func23, Tryd.ntmps23
    go_wp2_with fail
    go_ret
    exact ⟨congrArg (fun b => Ending.returned (.bool b)) hfe.out.symm, Below.refl _ _⟩
  subst hNN
  go_enter Tryd.func23, Tryd.ntmps23
  go_wp2_with fail
  refine wp_loopF [(false, 5), (true, 1), (false, 7), (true, 13)] _ [] (fun U wr => ∃ k : Nat, k ≤ N ∧ U 13 = .int .i64 (k : Nat) ∧ Below w.heap.size w wr ∧ ∀ j (h1 : j < xs.length) (h2 : j < ys.length), j < k → xs[j] = ys[j]) (fun U _ => N - (intOf (U 13)).toNat) ?_ ?_
  · simp only [List.getD_cons_zero, List.getD_cons_succ]
    exact ⟨0, Nat.zero_le _, rfl, Below.refl _ _, fun j _ _ hj => absurd hj (Nat.not_lt_zero _)⟩
  · intro U wr hrel KK hback l' hl'
    obtain ⟨k, hk, h12, hbw, hall⟩ := hrel
    simp only [fillS, popSeg, cond_true, cond_false, Nat.reduceAdd, h12] at hl'
    subst hl'
    replace h12 := Lib.hid h12
    replace hall := Lib.hid hall
    by_cases hlt : k < N
    · have hlt2 : (k : Int) < (N : Int) := by omega
      have hkN : k < xs.length := by rw [← hNl.out]; exact hlt
      have hkM : k < ys.length := by rw [← hNl'.out]; exact hlt
      obtain ⟨b1, o1, rfl, hr1⟩ := (hX.out.below hbw (Nat.le_refl _)) k hkN
      obtain ⟨b2, o2, rfl, hr2⟩ := (hY.out.below hbw (Nat.le_refl _)) k hkM
      have ox := okX.out _ (List.getElem_mem hkN)
      have oy := okY.out _ (List.getElem_mem hkM)
      have hno := fun (e : xs[k] ≠ ys[k]) => f3.out k hkN hkM e
      have hstep := fun (e : xs[k] = ys[k]) => show ∀ j (h1 : j < xs.length) (h2 : j < ys.length), j < k + 1 → xs[j] = ys[j] from fun j h1 h2 hjk => by
        by_cases hjk2 : j < k
        · exact hall.out j h1 h2 hjk2
        · obtain rfl : j = k := by omega
          exact e
      generalize xs[k] = x at *
      generalize ys[k] = y at *
      have ix : (Tryd.prog.info? 69).map (·.size) = some x.list.length := by rw [Nm.list_length ox.f]; kernel_rfl
      have iy : (Tryd.prog.info? 69).map (·.size) = some y.list.length := by rw [Nm.list_length oy.f]; kernel_rfl
      have hne : ∀ W, _ := fun W => (neq_nmG x y ox oy W).1
      obtain ⟨X, hX2⟩ : ∃ X, X = x.list.toArray := ⟨_, rfl⟩
      obtain ⟨Y, hY2⟩ : ∃ Y, Y = y.list.toArray := ⟨_, rfl⟩
      rw [← hX2, ← hY2] at hne
      obtain ⟨bb, hbb⟩ : ∃ bb, bb = decide (x = y) := ⟨_, rfl⟩
      rw [← hbb] at hne
      replace hbb := Lib.hid hbb
      replace hX2 := Lib.hid hX2
      replace hY2 := Lib.hid hY2
      replace hr1 := Lib.hid hr1
      replace hr2 := Lib.hid hr2
      replace hbw := Lib.hid hbw
      replace ox := Lib.hid ox
      replace oy := Lib.hid oy
      replace hno := Lib.hid hno
      replace hstep := Lib.hid hstep
      go_wp2_with fail
      have hd0 : Hid (Grown wr wr.drew) := Lib.hid (Grown.drew (Grown.refl wr))
      have r1 := Lib.hid (fun W (h : Grown wr W) => rangeAt_below hr1.out h (Nat.le_refl _))
      have r2 := Lib.hid (fun W (h : Grown wr W) => rangeAt_below hr2.out h (Nat.le_refl _))
      have hu := Tryd.underlying69
      have hld1 := fun W (h : Grown wr W) => run_loadAt_mid (P := Tryd.prog) W b1 (o1 + k * 40) 69 x.list _ (r1.out W h) hu rfl ix
      have hld2 := fun W (h : Grown wr W) => run_loadAt_mid (P := Tryd.prog) W b2 (o2 + k * 40) 69 y.list _ (r2.out W h) hu rfl iy
      rw [← hX2.out] at hld1
      rw [← hY2.out] at hld2
      refine wp_region_held_drew (S := (Grown wr)) (by kernel_rfl) hd0.out (fun hOn => ?_)
      generalize World.drew wr = wd at *
      refine wpAnyH_take (i := 0) (v := ?_) (by simp only [List.getElem?_toArray, List.getElem?_cons_zero]; rfl) (by kernel_rfl) (by kernel_rfl) (by kernel_rfl) (by exact fun _ _ _ h => h) (Or.inl ⟨by rfl, ?_⟩) hOn ?_
      rotate_left
      focus (intro W hSW; go_simp; try with_reducible rfl)
      try simp only [Act.put, List.setIfInBounds_toArray, List.set_cons_zero, List.set_cons_succ]
      refine wpAnyH_take (i := 1) (v := ?_) (by simp only [List.getElem?_toArray, List.getElem?_cons_succ, List.getElem?_cons_zero]; rfl) (by kernel_rfl) (by kernel_rfl) (by kernel_rfl) (by exact fun _ _ _ h => h) (Or.inl ⟨by rfl, ?_⟩) hOn ?_
      rotate_left
      focus (intro W hSW; go_simp; try with_reducible rfl)
      try simp only [Act.put, List.setIfInBounds_toArray, List.set_cons_zero, List.set_cons_succ]
      refine wpAnyH_take (i := 2) (v := ?_) (by simp only [List.getElem?_toArray, List.getElem?_cons_succ, List.getElem?_cons_zero]; rfl) (by kernel_rfl) (by kernel_rfl) (by kernel_rfl) (by exact fun _ _ _ h => h) (Or.inl ⟨by rfl, ?_⟩) hOn ?_
      rotate_left
      focus (intro W hSW; go_simp; try with_reducible rfl)
      try simp only [Act.put, List.setIfInBounds_toArray, List.set_cons_zero, List.set_cons_succ]
      refine wpAnyH_take (i := 4) (v := ?_) (by simp only [List.getElem?_toArray, List.getElem?_cons_succ, List.getElem?_cons_zero]; rfl) (by kernel_rfl) (by kernel_rfl) (by kernel_rfl) (by exact fun _ _ _ h => h) (Or.inl ⟨by rfl, ?_⟩) hOn ?_
      rotate_left
      focus (intro W hSW; go_simp; try with_reducible rfl)
      try simp only [Act.put, List.setIfInBounds_toArray, List.set_cons_zero, List.set_cons_succ]
      refine wpAnyH_take (i := 5) (v := ?_) (by simp only [List.getElem?_toArray, List.getElem?_cons_succ, List.getElem?_cons_zero]; rfl) (by kernel_rfl) (by kernel_rfl) (by kernel_rfl) (by exact fun _ _ _ h => h) (Or.inl ⟨by rfl, ?_⟩) hOn ?_
      rotate_left
      focus (intro W hSW; go_simp; try with_reducible rfl)
      try simp only [Act.put, List.setIfInBounds_toArray, List.set_cons_zero, List.set_cons_succ]
      refine wpAnyH_take (i := 6) (v := ?_) (by simp only [List.getElem?_toArray, List.getElem?_cons_succ, List.getElem?_cons_zero]; rfl) (by kernel_rfl) (by kernel_rfl) (by kernel_rfl) (by exact fun _ _ _ h => h) (Or.inl ⟨by rfl, ?_⟩) hOn ?_
      rotate_left
      focus (intro W hSW; go_simp; try with_reducible rfl)
      try simp only [Act.put, List.setIfInBounds_toArray, List.set_cons_zero, List.set_cons_succ]
      refine wpAnyH_ready (rs := [3, 7]) (by kernel_rfl) (by simp) ?_
      refine AllReadyH.cons (by simp only [List.getElem?_toArray, List.getElem?_cons_succ, List.getElem?_cons_zero]; rfl) (fun Kz hKz => ?_) ?_
      rw [if_pos (by rfl)]
      (refine wp_load_mid 69 (.tmp 18) rfl b1 (o1 + k * 40) rfl x.list _ (r1.out _ hOn) hu rfl ix ?_)
      rw [← hX2.out]
      have hS := hOn
      refine hKz.out _ _ (by first | exact hS | exact Below.trans hOn (Below.mono hnew (Below.size hOn))) (fun hNext => ?_)
      clear hKz Kz hOn
      have hOn := hNext
      clear hNext
      try clear hnew
      try clear hS
      try simp only [Act.put]
      refine wpAnyH_ready (rs := [7]) (by kernel_rfl) (by simp) ?_
      refine AllReadyH.cons (by simp only [List.getElem?_toArray, List.getElem?_cons_succ, List.getElem?_cons_zero]; rfl) (fun Kz hKz => ?_) AllReadyH.nil
      rw [if_pos (by rfl)]
      (refine wp_load_mid 69 (.tmp 22) rfl b2 (o2 + k * 40) rfl y.list _ (r2.out _ hOn) hu rfl iy ?_)
      rw [← hY2.out]
      have hS := hOn
      refine hKz.out _ _ (by first | exact hS | exact Below.trans hOn (Below.mono hnew (Below.size hOn))) (fun hNext => ?_)
      clear hKz Kz hOn
      have hOn := hNext
      clear hNext
      try clear hnew
      try clear hS
      try simp only [Act.put]
      refine wpAnyH_take (i := 8) (v := ?_) (by simp only [List.getElem?_toArray, List.getElem?_cons_succ, List.getElem?_cons_zero]; rfl) (by kernel_rfl) (by kernel_rfl) (by kernel_rfl) (by exact fun _ _ _ h => h) (Or.inl ⟨by rfl, ?_⟩) hOn ?_
      rotate_left
      focus (intro W hSW; go_simp; try with_reducible rfl)
      try simp only [Act.put, List.setIfInBounds_toArray, List.set_cons_zero, List.set_cons_succ]
      refine wpAnyH_done (by kernel_rfl) ?_ _
      rotate_left
      refine AllReadyH.cons (by simp only [List.getElem?_toArray, List.getElem?_cons_succ, List.getElem?_cons_zero]; rfl) (fun Kz hKz => ?_) AllReadyH.nil
      rw [if_pos (by rfl)]
      (refine wp_load_mid 69 (.tmp 22) rfl b2 (o2 + k * 40) rfl y.list _ (r2.out _ hOn) hu rfl iy ?_)
      rw [← hY2.out]
      have hS := hOn
      refine hKz.out _ _ (by first | exact hS | exact Below.trans hOn (Below.mono hnew (Below.size hOn))) (fun hNext => ?_)
      clear hKz Kz hOn
      have hOn := hNext
      clear hNext
      try clear hnew
      try clear hS
      try simp only [Act.put]
      refine wpAnyH_ready (rs := [3]) (by kernel_rfl) (by simp) ?_
      refine AllReadyH.cons (by simp only [List.getElem?_toArray, List.getElem?_cons_succ, List.getElem?_cons_zero]; rfl) (fun Kz hKz => ?_) AllReadyH.nil
      rw [if_pos (by rfl)]
      (refine wp_load_mid 69 (.tmp 18) rfl b1 (o1 + k * 40) rfl x.list _ (r1.out _ hOn) hu rfl ix ?_)
      rw [← hX2.out]
      have hS := hOn
      refine hKz.out _ _ (by first | exact hS | exact Below.trans hOn (Below.mono hnew (Below.size hOn))) (fun hNext => ?_)
      clear hKz Kz hOn
      have hOn := hNext
      clear hNext
      try clear hnew
      try clear hS
      try simp only [Act.put]
      refine wpAnyH_take (i := 8) (v := ?_) (by simp only [List.getElem?_toArray, List.getElem?_cons_succ, List.getElem?_cons_zero]; rfl) (by kernel_rfl) (by kernel_rfl) (by kernel_rfl) (by exact fun _ _ _ h => h) (Or.inl ⟨by rfl, ?_⟩) hOn ?_
      rotate_left
      focus (intro W hSW; go_simp; try with_reducible rfl)
      try simp only [Act.put, List.setIfInBounds_toArray, List.set_cons_zero, List.set_cons_succ]
      refine wpAnyH_done (by kernel_rfl) ?_ _
      all_goals
        have hS2 := Lib.hid (hbw.out.trans (hOn.mono hbw.out.size))
        cases bb with
        | true =>
          have hxy : x = y := by simpa using hbb.out.symm
          replace hxy := Lib.hid hxy
          go_wp2_with fail
          refine hback.out _ _ (by kernel_rfl) ?_ ?_
          · simp only [List.getD_cons_zero, List.getD_cons_succ]
            exact ⟨k + 1, by omega, by go_num, hS2.out, hstep.out hxy.out⟩
          · have h12 := h12.out
            simp only [List.getD_cons_zero, List.getD_cons_succ, h12, intOf]
            omega
        | false =>
          have hxy : x ≠ y := by simpa using hbb.out.symm
          have hfe := Lib.hid (hno.out hxy)
          clear hxy
          go_wp2_with fail
          go_ret
          exact ⟨congrArg (fun b => Ending.returned (.bool b)) hfe.out.symm, hS2.out⟩
    · obtain rfl : k = N := by omega
      have hfe := Lib.hid (f5.out (by rw [← hNl.out, ← hNl'.out]) (fun j h1 h2 => hall.out j h1 h2 (by rw [hNl.out]; exact h1)))
      replace hbw := Lib.hid hbw
      clear hback
      go_wp2_with fail
      go_ret
      exact ⟨congrArg (fun b => Ending.returned (.bool b)) hfe.out.symm, hbw.out⟩

set_option maxRecDepth 100000 in
set_option maxHeartbeats 4000000 in
theorem equalV_any (a b : Option Addr) (c d : Nat) (xs ys : List Vd) (okX : ∀ x ∈ xs, x.Ok) (okY : ∀ y ∈ ys, y.Ok) (w : World) (hX : RowAt Vd.list 3 w a xs) (hY : RowAt Vd.list 3 w b ys) (l1 : xs.length ≤ 100000) :
    Calls Tryd.prog 24 #[.slice a xs.length c, .slice b ys.length d] w fun x w' => x = .returned (.bool (decide (xs = ys))) ∧ Below w.heap.size w w' := by
  have f1 := fun (h : xs.length ≠ ys.length) => decide_eq_false (p := xs = ys) (fun e => h (by rw [e]))
  have f3 := fun k (h1 : k < xs.length) (h2 : k < ys.length) (h : xs[k] ≠ ys[k]) => decide_eq_false (p := xs = ys) (fun e => h (by simp only [e]))
  have f5 := fun (h : xs.length = ys.length) (he : ∀ j (h1 : j < xs.length) (h2 : j < ys.length), xs[j] = ys[j]) => decide_eq_true (p := xs = ys) (List.ext_getElem h he)
  generalize decide (xs = ys) = res at *
  obtain ⟨N, hNl⟩ : ∃ N, N = xs.length := ⟨_, rfl⟩
  obtain ⟨N', hNl'⟩ : ∃ N, N = ys.length := ⟨_, rfl⟩
  rw [← hNl, ← hNl']
  rw [← hNl] at l1
  replace f1 := Lib.hid f1
  replace f3 := Lib.hid f3
  replace f5 := Lib.hid f5
  replace hX := Lib.hid hX
  replace hY := Lib.hid hY
  replace okX := Lib.hid okX
  replace okY := Lib.hid okY
  replace hNl := Lib.hid hNl
  replace hNl' := Lib.hid hNl'
  by_cases hNN : N = N'
  rotate_left
  · have hfe := Lib.hid (f1.out (by rw [← hNl.out, ← hNl'.out]; exact hNN))
    have hne : ((N : Int) != (N' : Int)) = true := by simpa using (show (N : Int) ≠ (N' : Int) by omega)
    clear hNN
    go_enter Tryd.func24, Tryd.ntmps24
    go_wp2_with fail
    go_ret
    exact ⟨congrArg (fun b => Ending.returned (.bool b)) hfe.out.symm, Below.refl _ _⟩
  subst hNN
  go_enter Tryd.func24, Tryd.ntmps24
  go_wp2_with fail
  refine wp_loopF [(false, 5), (true, 1), (false, 7), (true, 13)] _ [] (fun U wr => ∃ k : Nat, k ≤ N ∧ U 13 = .int .i64 (k : Nat) ∧ Below w.heap.size w wr ∧ ∀ j (h1 : j < xs.length) (h2 : j < ys.length), j < k → xs[j] = ys[j]) (fun U _ => N - (intOf (U 13)).toNat) ?_ ?_
  · simp only [List.getD_cons_zero, List.getD_cons_succ]
    exact ⟨0, Nat.zero_le _, rfl, Below.refl _ _, fun j _ _ hj => absurd hj (Nat.not_lt_zero _)⟩
  · intro U wr hrel KK hback l' hl'
    obtain ⟨k, hk, h12, hbw, hall⟩ := hrel
    simp only [fillS, popSeg, cond_true, cond_false, Nat.reduceAdd, h12] at hl'
    subst hl'
    replace h12 := Lib.hid h12
    replace hall := Lib.hid hall
    by_cases hlt : k < N
    · have hlt2 : (k : Int) < (N : Int) := by omega
      have hkN : k < xs.length := by rw [← hNl.out]; exact hlt
      have hkM : k < ys.length := by rw [← hNl'.out]; exact hlt
      obtain ⟨b1, o1, rfl, hr1⟩ := (hX.out.below hbw (Nat.le_refl _)) k hkN
      obtain ⟨b2, o2, rfl, hr2⟩ := (hY.out.below hbw (Nat.le_refl _)) k hkM
      have ox := okX.out _ (List.getElem_mem hkN)
      have oy := okY.out _ (List.getElem_mem hkM)
      have hno := fun (e : xs[k] ≠ ys[k]) => f3.out k hkN hkM e
      have hstep := fun (e : xs[k] = ys[k]) => show ∀ j (h1 : j < xs.length) (h2 : j < ys.length), j < k + 1 → xs[j] = ys[j] from fun j h1 h2 hjk => by
        by_cases hjk2 : j < k
        · exact hall.out j h1 h2 hjk2
        · obtain rfl : j = k := by omega
          exact e
      generalize xs[k] = x at *
      generalize ys[k] = y at *
      have ix : (Tryd.prog.info? 70).map (·.size) = some x.list.length := by rw [(rfl : x.list.length = 3)]; kernel_rfl
      have iy : (Tryd.prog.info? 70).map (·.size) = some y.list.length := by rw [(rfl : y.list.length = 3)]; kernel_rfl
      have hne : ∀ W, _ := fun W => neq_vdG x y ox oy W
      obtain ⟨X, hX2⟩ : ∃ X, X = x.list.toArray := ⟨_, rfl⟩
      obtain ⟨Y, hY2⟩ : ∃ Y, Y = y.list.toArray := ⟨_, rfl⟩
      rw [← hX2, ← hY2] at hne
      obtain ⟨bb, hbb⟩ : ∃ bb, bb = decide (x = y) := ⟨_, rfl⟩
      rw [← hbb] at hne
      replace hbb := Lib.hid hbb
      replace hX2 := Lib.hid hX2
      replace hY2 := Lib.hid hY2
      replace hr1 := Lib.hid hr1
      replace hr2 := Lib.hid hr2
      replace hbw := Lib.hid hbw
      replace ox := Lib.hid ox
      replace oy := Lib.hid oy
      replace hno := Lib.hid hno
      replace hstep := Lib.hid hstep
      go_wp2_with fail
      have hd0 : Hid (Grown wr wr.drew) := Lib.hid (Grown.drew (Grown.refl wr))
      have r1 := Lib.hid (fun W (h : Grown wr W) => rangeAt_below hr1.out h (Nat.le_refl _))
      have r2 := Lib.hid (fun W (h : Grown wr W) => rangeAt_below hr2.out h (Nat.le_refl _))
      have hu := Tryd.underlying70
      have hld1 := fun W (h : Grown wr W) => run_loadAt_mid (P := Tryd.prog) W b1 (o1 + k * 3) 70 x.list _ (r1.out W h) hu rfl ix
      have hld2 := fun W (h : Grown wr W) => run_loadAt_mid (P := Tryd.prog) W b2 (o2 + k * 3) 70 y.list _ (r2.out W h) hu rfl iy
      rw [← hX2.out] at hld1
      rw [← hY2.out] at hld2
      refine wp_region_held_drew (S := (Grown wr)) (by kernel_rfl) hd0.out (fun hOn => ?_)
      generalize World.drew wr = wd at *
      refine wpAnyH_take (i := 0) (v := ?_) (by simp only [List.getElem?_toArray, List.getElem?_cons_zero]; rfl) (by kernel_rfl) (by kernel_rfl) (by kernel_rfl) (by exact fun _ _ _ h => h) (Or.inl ⟨by rfl, ?_⟩) hOn ?_
      rotate_left
      focus (intro W hSW; go_simp; try with_reducible rfl)
      try simp only [Act.put, List.setIfInBounds_toArray, List.set_cons_zero, List.set_cons_succ]
      refine wpAnyH_take (i := 1) (v := ?_) (by simp only [List.getElem?_toArray, List.getElem?_cons_succ, List.getElem?_cons_zero]; rfl) (by kernel_rfl) (by kernel_rfl) (by kernel_rfl) (by exact fun _ _ _ h => h) (Or.inl ⟨by rfl, ?_⟩) hOn ?_
      rotate_left
      focus (intro W hSW; go_simp; try with_reducible rfl)
      try simp only [Act.put, List.setIfInBounds_toArray, List.set_cons_zero, List.set_cons_succ]
      refine wpAnyH_take (i := 2) (v := ?_) (by simp only [List.getElem?_toArray, List.getElem?_cons_succ, List.getElem?_cons_zero]; rfl) (by kernel_rfl) (by kernel_rfl) (by kernel_rfl) (by exact fun _ _ _ h => h) (Or.inl ⟨by rfl, ?_⟩) hOn ?_
      rotate_left
      focus (intro W hSW; go_simp; try with_reducible rfl)
      try simp only [Act.put, List.setIfInBounds_toArray, List.set_cons_zero, List.set_cons_succ]
      refine wpAnyH_take (i := 4) (v := ?_) (by simp only [List.getElem?_toArray, List.getElem?_cons_succ, List.getElem?_cons_zero]; rfl) (by kernel_rfl) (by kernel_rfl) (by kernel_rfl) (by exact fun _ _ _ h => h) (Or.inl ⟨by rfl, ?_⟩) hOn ?_
      rotate_left
      focus (intro W hSW; go_simp; try with_reducible rfl)
      try simp only [Act.put, List.setIfInBounds_toArray, List.set_cons_zero, List.set_cons_succ]
      refine wpAnyH_take (i := 5) (v := ?_) (by simp only [List.getElem?_toArray, List.getElem?_cons_succ, List.getElem?_cons_zero]; rfl) (by kernel_rfl) (by kernel_rfl) (by kernel_rfl) (by exact fun _ _ _ h => h) (Or.inl ⟨by rfl, ?_⟩) hOn ?_
      rotate_left
      focus (intro W hSW; go_simp; try with_reducible rfl)
      try simp only [Act.put, List.setIfInBounds_toArray, List.set_cons_zero, List.set_cons_succ]
      refine wpAnyH_take (i := 6) (v := ?_) (by simp only [List.getElem?_toArray, List.getElem?_cons_succ, List.getElem?_cons_zero]; rfl) (by kernel_rfl) (by kernel_rfl) (by kernel_rfl) (by exact fun _ _ _ h => h) (Or.inl ⟨by rfl, ?_⟩) hOn ?_
      rotate_left
      focus (intro W hSW; go_simp; try with_reducible rfl)
      try simp only [Act.put, List.setIfInBounds_toArray, List.set_cons_zero, List.set_cons_succ]
      refine wpAnyH_ready (rs := [3, 7]) (by kernel_rfl) (by simp) ?_
      refine AllReadyH.cons (by simp only [List.getElem?_toArray, List.getElem?_cons_succ, List.getElem?_cons_zero]; rfl) (fun Kz hKz => ?_) ?_
      rw [if_pos (by rfl)]
      (refine wp_load_mid 70 (.tmp 18) rfl b1 (o1 + k * 3) rfl x.list _ (r1.out _ hOn) hu rfl ix ?_)
      rw [← hX2.out]
      have hS := hOn
      refine hKz.out _ _ (by first | exact hS | exact Below.trans hOn (Below.mono hnew (Below.size hOn))) (fun hNext => ?_)
      clear hKz Kz hOn
      have hOn := hNext
      clear hNext
      try clear hnew
      try clear hS
      try simp only [Act.put]
      refine wpAnyH_ready (rs := [7]) (by kernel_rfl) (by simp) ?_
      refine AllReadyH.cons (by simp only [List.getElem?_toArray, List.getElem?_cons_succ, List.getElem?_cons_zero]; rfl) (fun Kz hKz => ?_) AllReadyH.nil
      rw [if_pos (by rfl)]
      (refine wp_load_mid 70 (.tmp 22) rfl b2 (o2 + k * 3) rfl y.list _ (r2.out _ hOn) hu rfl iy ?_)
      rw [← hY2.out]
      have hS := hOn
      refine hKz.out _ _ (by first | exact hS | exact Below.trans hOn (Below.mono hnew (Below.size hOn))) (fun hNext => ?_)
      clear hKz Kz hOn
      have hOn := hNext
      clear hNext
      try clear hnew
      try clear hS
      try simp only [Act.put]
      refine wpAnyH_take (i := 8) (v := ?_) (by simp only [List.getElem?_toArray, List.getElem?_cons_succ, List.getElem?_cons_zero]; rfl) (by kernel_rfl) (by kernel_rfl) (by kernel_rfl) (by exact fun _ _ _ h => h) (Or.inl ⟨by rfl, ?_⟩) hOn ?_
      rotate_left
      focus (intro W hSW; go_simp; try with_reducible rfl)
      try simp only [Act.put, List.setIfInBounds_toArray, List.set_cons_zero, List.set_cons_succ]
      refine wpAnyH_done (by kernel_rfl) ?_ _
      rotate_left
      refine AllReadyH.cons (by simp only [List.getElem?_toArray, List.getElem?_cons_succ, List.getElem?_cons_zero]; rfl) (fun Kz hKz => ?_) AllReadyH.nil
      rw [if_pos (by rfl)]
      (refine wp_load_mid 70 (.tmp 22) rfl b2 (o2 + k * 3) rfl y.list _ (r2.out _ hOn) hu rfl iy ?_)
      rw [← hY2.out]
      have hS := hOn
      refine hKz.out _ _ (by first | exact hS | exact Below.trans hOn (Below.mono hnew (Below.size hOn))) (fun hNext => ?_)
      clear hKz Kz hOn
      have hOn := hNext
      clear hNext
      try clear hnew
      try clear hS
      try simp only [Act.put]
      refine wpAnyH_ready (rs := [3]) (by kernel_rfl) (by simp) ?_
      refine AllReadyH.cons (by simp only [List.getElem?_toArray, List.getElem?_cons_succ, List.getElem?_cons_zero]; rfl) (fun Kz hKz => ?_) AllReadyH.nil
      rw [if_pos (by rfl)]
      (refine wp_load_mid 70 (.tmp 18) rfl b1 (o1 + k * 3) rfl x.list _ (r1.out _ hOn) hu rfl ix ?_)
      rw [← hX2.out]
      have hS := hOn
      refine hKz.out _ _ (by first | exact hS | exact Below.trans hOn (Below.mono hnew (Below.size hOn))) (fun hNext => ?_)
      clear hKz Kz hOn
      have hOn := hNext
      clear hNext
      try clear hnew
      try clear hS
      try simp only [Act.put]
      refine wpAnyH_take (i := 8) (v := ?_) (by simp only [List.getElem?_toArray, List.getElem?_cons_succ, List.getElem?_cons_zero]; rfl) (by kernel_rfl) (by kernel_rfl) (by kernel_rfl) (by exact fun _ _ _ h => h) (Or.inl ⟨by rfl, ?_⟩) hOn ?_
      rotate_left
      focus (intro W hSW; go_simp; try with_reducible rfl)
      try simp only [Act.put, List.setIfInBounds_toArray, List.set_cons_zero, List.set_cons_succ]
      refine wpAnyH_done (by kernel_rfl) ?_ _
      all_goals
        have hS2 := Lib.hid (hbw.out.trans (hOn.mono hbw.out.size))
        cases bb with
        | true =>
          have hxy : x = y := by simpa using hbb.out.symm
          replace hxy := Lib.hid hxy
          go_wp2_with fail
          refine hback.out _ _ (by kernel_rfl) ?_ ?_
          · simp only [List.getD_cons_zero, List.getD_cons_succ]
            exact ⟨k + 1, by omega, by go_num, hS2.out, hstep.out hxy.out⟩
          · have h12 := h12.out
            simp only [List.getD_cons_zero, List.getD_cons_succ, h12, intOf]
            omega
        | false =>
          have hxy : x ≠ y := by simpa using hbb.out.symm
          have hfe := Lib.hid (hno.out hxy)
          clear hxy
          go_wp2_with fail
          go_ret
          exact ⟨congrArg (fun b => Ending.returned (.bool b)) hfe.out.symm, hS2.out⟩
    · obtain rfl : k = N := by omega
      have hfe := Lib.hid (f5.out (by rw [← hNl.out, ← hNl'.out]) (fun j h1 h2 => hall.out j h1 h2 (by rw [hNl.out]; exact h1)))
      replace hbw := Lib.hid hbw
      clear hback
      go_wp2_with fail
      go_ret
      exact ⟨congrArg (fun b => Ending.returned (.bool b)) hfe.out.symm, hbw.out⟩

end Go.Proofs.YtndgacjfkoliaaaDoor
