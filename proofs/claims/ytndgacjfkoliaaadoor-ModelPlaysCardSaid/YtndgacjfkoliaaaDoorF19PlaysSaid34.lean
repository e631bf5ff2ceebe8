/- model.asked, model.Count, model.Left. Printed by genmcnt.py. -/
import Derived.Test.YtndgacjfkoliaaaDoorF17PlaysSaid34
import Derived.Test.YtndgacjfkoliaaaDoorF18PlaysSaid34
import Derived.Test.YtndgacjfkoliaaaDoorF4PlaysSaid34
namespace Go.Proofs.YtndgacjfkoliaaaDoor
open Go.RowKit
set_option linter.unusedSimpArgs false
set_option linter.unusedVariables false

set_option maxRecDepth 100000 in
set_option maxHeartbeats 2000000 in
theorem masked_any (va : Value) (m : Md) (w : World) (ha : ArgM w va m) (l2 : m.vs.length ≤ 1000) (o x : Int) :
    Calls Tryd.prog 26 #[va, .int .i64 o, .int .i64 x] w fun e w' => e = .returned (.int .i64 (mCnt m.vs o x : Nat)) ∧ Below w.heap.size w w' := by
  obtain ⟨⟨an, cn, av, cv, rfl, hN, hN1, hN2, hV, hV1, hV2⟩, okN, okV⟩ := ha
  have hB : Below w.heap.size w (w.alloc (.cells #[.slice an m.ns.length cn, .slice av m.vs.length cv] 28)) := (Below.refl _ _).alloc (Nat.le_refl _) _
  have e11 : (w.alloc (.cells #[.slice an m.ns.length cn, .slice av m.vs.length cv] 28)).cell? ⟨w.heap.size, 1, none⟩ = some (.slice av m.vs.length cv) := cell_of_block (heap_alloc_new w _) 1
  obtain ⟨N, hN0⟩ : ∃ N, N = m.vs.length := ⟨_, rfl⟩
  generalize m.ns.length = NN at *
  rw [← hN0] at e11 l2 hB ⊢
  obtain ⟨res, hres⟩ : ∃ res, res = mCnt m.vs o x := ⟨_, rfl⟩
  rw [← hres]
  obtain ⟨w2, hw2⟩ : ∃ w2, w2 = w.alloc (.cells #[.slice an NN cn, .slice av N cv] 28) := ⟨_, rfl⟩
  rw [← hw2] at hB e11
  have hV2' := Lib.hid (hV.below hB (Nat.le_refl _))
  have huV := Tryd.underlying70
  replace hres := Lib.hid hres
  replace hN0 := Lib.hid hN0
  replace okV := Lib.hid okV
  replace hB := Lib.hid hB
  replace hw2 := Lib.hid hw2
  clear hN hN1 hN2 hV hV1 hV2 okN
  have e11' : (w.alloc (.cells #[.slice an NN cn, .slice av N cv] 28)).cell? ⟨w.heap.size, 1, none⟩ = some (.slice av N cv) := by rw [← hw2.out]; exact e11
  go_enter Tryd.func26, Tryd.ntmps26
  go_wp2_with fail
  rw [← hw2.out]
  clear e11 e11'
  refine wp_loopF [(false, 7), (true, 1), (false, 1), (true, 1), (false, 3), (true, 17), (false, 1)] _ [] (fun U wr => ∃ (j n : Nat), j ≤ N ∧ n ≤ j ∧ U 13 = .int .i64 (j : Nat) ∧ U 7 = .int .i64 (n : Nat) ∧ n = mCnt (m.vs.take j) o x ∧ Below w2.heap.size w2 wr) (fun U _ => N - (intOf (U 13)).toNat) ?_ ?_
  · simp only [List.getD_cons_zero, List.getD_cons_succ]
    exact ⟨0, 0, Nat.zero_le _, Nat.le_refl _, rfl, rfl, by simp [mCnt], Below.refl _ _⟩
  · intro U wr hrel KK hback l' hl'
    obtain ⟨j, n, hj, hnj, h13, h7, hn, hbw⟩ := hrel
    simp only [fillS, popSeg, cond_true, cond_false, Nat.reduceAdd, h13, h7] at hl'
    subst hl'
    replace h13 := Lib.hid h13
    replace h7 := Lib.hid h7
    replace hn := Lib.hid hn
    by_cases hlt : j < N
    · have hlt2 : (j : Int) < (N : Int) := by omega
      have hjN : j < m.vs.length := by rw [← hN0.out]; exact hlt
      obtain ⟨b1, o1, rfl, hr1⟩ := (hV2'.out.below hbw (Nat.le_refl _)) j hjN
      have hstep := Lib.hid (show mCnt (m.vs.take (j + 1)) o x = n + (if (decide ((m.vs[j]).o = o) && decide ((m.vs[j]).w = x)) = true then 1 else 0) by
        unfold mCnt
        rw [List.take_succ_eq_append_getElem hjN, List.countP_append, hn.out]
        simp [mCnt, List.countP_cons])
      generalize m.vs[j] = y at *
      obtain ⟨X, hX⟩ : ∃ X, X = y.list.toArray := ⟨_, rfl⟩
      have hX3 : X.size = 3 := by rw [hX]; rfl
      have ix : (Tryd.prog.info? 70).map (·.size) = some y.list.length := by kernel_rfl
      have iX : (Tryd.prog.info? 70).map (·.size) = some X.size := by rw [hX3]; kernel_rfl
      have zX : (#[.int .i64 0, .int .i64 0, .int .i64 0] : Array Value).size = X.size := by rw [hX3]; rfl
      have h1X : X.all (·.oneCell') = true := by rw [hX]; simp [Vd.list, Value.oneCell']
      have hX0 : X[0]? = some (.int .i64 y.o) := by rw [hX]; rfl
      have hXf : X[1]? = some (.int .i64 y.w) := by rw [hX]; rfl
      have hZ := Lib.hid (heap_alloc_new wr (.cells #[.int .i64 0, .int .i64 0, .int .i64 0] 70))
      have hsz := hbw.size
      replace hX := Lib.hid hX
      replace hX0 := Lib.hid hX0
      replace hXf := Lib.hid hXf
      replace hr1 := Lib.hid hr1
      replace hbw := Lib.hid hbw
      by_cases ho : y.o = o
      · have hoe : (y.o == o) = true := by simpa using ho
        by_cases hf : y.w = x
        · have hfe : (y.w == x) = true := by simpa using hf
          have hst := Lib.hid (show n + 1 = mCnt (m.vs.take (j + 1)) o x by rw [hstep.out, if_pos (by simp [ho, hf])])
          replace ho := Lib.hid ho
          replace hf := Lib.hid hf
          go_wp2_with (first
            | ((with_reducible show wpList _ _ _ (Oper.mk _ (Op.load 70 (.tmp 15)) _ _ _ _ :: _) _ _); refine wpList_load_mid rfl 70 (.tmp 15) rfl b1 (o1 + j * 3) rfl y.list _ hr1.out huV rfl ix ?_; rw [← hX.out])
            | ((with_reducible show wpList _ _ _ (Oper.mk _ (Op.store 70 (.tmp 9) _) _ _ _ _ :: _) _ _); (refine wpList_store_row rfl 70 (.tmp 9) (.tmp 16) rfl wr.heap.size _ X rfl rfl hZ iX zX h1X ?_); intro w3 hU3; have hb3 : Below wr.heap.size wr w3 := (Below.alloc (Below.refl wr.heap.size wr) (Nat.le_refl _) _).trans (hU3.out.below (Nat.le_refl _)); have k0 : w3.cell? ⟨wr.heap.size, 0, none⟩ = some (.int .i64 y.o) := (by rw [cell_of_block hU3.out.here]; exact hX0.out); have kf : w3.cell? ⟨wr.heap.size, 1, none⟩ = some (.int .i64 y.w) := (by rw [cell_of_block hU3.out.here]; exact hXf.out); have hb2 := Lib.hid (hbw.out.trans (hb3.mono hsz)); clear hb3 hU3))
          refine hback.out _ _ (by kernel_rfl) ?_ ?_
          · simp only [List.getD_cons_zero, List.getD_cons_succ]
            exact ⟨j + 1, n + 1, hlt, by omega, by go_num, by go_num, hst.out, hb2.out⟩
          · have h13 := h13.out
            simp only [List.getD_cons_zero, List.getD_cons_succ, h13, intOf]
            omega
        · have hfe : (y.w == x) = false := by simpa using hf
          have hst := Lib.hid (show n = mCnt (m.vs.take (j + 1)) o x by rw [hstep.out, if_neg (by simp [hf])]; rfl)
          replace ho := Lib.hid ho
          replace hf := Lib.hid hf
          go_wp2_with (first
            | ((with_reducible show wpList _ _ _ (Oper.mk _ (Op.load 70 (.tmp 15)) _ _ _ _ :: _) _ _); refine wpList_load_mid rfl 70 (.tmp 15) rfl b1 (o1 + j * 3) rfl y.list _ hr1.out huV rfl ix ?_; rw [← hX.out])
            | ((with_reducible show wpList _ _ _ (Oper.mk _ (Op.store 70 (.tmp 9) _) _ _ _ _ :: _) _ _); (refine wpList_store_row rfl 70 (.tmp 9) (.tmp 16) rfl wr.heap.size _ X rfl rfl hZ iX zX h1X ?_); intro w3 hU3; have hb3 : Below wr.heap.size wr w3 := (Below.alloc (Below.refl wr.heap.size wr) (Nat.le_refl _) _).trans (hU3.out.below (Nat.le_refl _)); have k0 : w3.cell? ⟨wr.heap.size, 0, none⟩ = some (.int .i64 y.o) := (by rw [cell_of_block hU3.out.here]; exact hX0.out); have kf : w3.cell? ⟨wr.heap.size, 1, none⟩ = some (.int .i64 y.w) := (by rw [cell_of_block hU3.out.here]; exact hXf.out); have hb2 := Lib.hid (hbw.out.trans (hb3.mono hsz)); clear hb3 hU3))
          refine hback.out _ _ (by kernel_rfl) ?_ ?_
          · simp only [List.getD_cons_zero, List.getD_cons_succ]
            exact ⟨j + 1, n, hlt, by omega, by go_num, rfl, hst.out, hb2.out⟩
          · have h13 := h13.out
            simp only [List.getD_cons_zero, List.getD_cons_succ, h13, intOf]
            omega
      · have hoe : (y.o == o) = false := by simpa using ho
        have hst := Lib.hid (show n = mCnt (m.vs.take (j + 1)) o x by rw [hstep.out, if_neg (by simp [ho])]; rfl)
        replace ho := Lib.hid ho
        go_wp2_with (first
            | ((with_reducible show wpList _ _ _ (Oper.mk _ (Op.load 70 (.tmp 15)) _ _ _ _ :: _) _ _); refine wpList_load_mid rfl 70 (.tmp 15) rfl b1 (o1 + j * 3) rfl y.list _ hr1.out huV rfl ix ?_; rw [← hX.out])
            | ((with_reducible show wpList _ _ _ (Oper.mk _ (Op.store 70 (.tmp 9) _) _ _ _ _ :: _) _ _); (refine wpList_store_row rfl 70 (.tmp 9) (.tmp 16) rfl wr.heap.size _ X rfl rfl hZ iX zX h1X ?_); intro w3 hU3; have hb3 : Below wr.heap.size wr w3 := (Below.alloc (Below.refl wr.heap.size wr) (Nat.le_refl _) _).trans (hU3.out.below (Nat.le_refl _)); have k0 : w3.cell? ⟨wr.heap.size, 0, none⟩ = some (.int .i64 y.o) := (by rw [cell_of_block hU3.out.here]; exact hX0.out); have kf : w3.cell? ⟨wr.heap.size, 1, none⟩ = some (.int .i64 y.w) := (by rw [cell_of_block hU3.out.here]; exact hXf.out); have hb2 := Lib.hid (hbw.out.trans (hb3.mono hsz)); clear hb3 hU3))
        refine hback.out _ _ (by kernel_rfl) ?_ ?_
        · simp only [List.getD_cons_zero, List.getD_cons_succ]
          exact ⟨j + 1, n, hlt, by omega, by go_num, rfl, hst.out, hb2.out⟩
        · have h13 := h13.out
          simp only [List.getD_cons_zero, List.getD_cons_succ, h13, intOf]
          omega
    · obtain rfl : N = j := by omega
      have hnr : n = res := by rw [hn.out, hres.out, hN0.out, List.take_length]
      have hBf := Lib.hid (hB.out.trans (hbw.mono hB.out.size))
      clear hback h7 hn
      subst hnr
      go_wp2_with fail
      go_ret
      exact ⟨rfl, hBf.out⟩
set_option maxRecDepth 100000 in
set_option maxHeartbeats 2000000 in
theorem mcount_any (va : Value) (m : Md) (w : World) (ha : ArgM w va m) (l2 : m.vs.length ≤ 1000) (o x : Int) :
    Calls Tryd.prog 13 #[va, .int .i64 o, .int .i64 x] w fun e w' => e = .returned (.int .i64 (mVer m.vs o x : Nat)) ∧ Below w.heap.size w w' := by
  obtain ⟨⟨an, cn, av, cv, rfl, hN, hN1, hN2, hV, hV1, hV2⟩, okN, okV⟩ := ha
  have hB : Below w.heap.size w (w.alloc (.cells #[.slice an m.ns.length cn, .slice av m.vs.length cv] 28)) := (Below.refl _ _).alloc (Nat.le_refl _) _
  have e11 : (w.alloc (.cells #[.slice an m.ns.length cn, .slice av m.vs.length cv] 28)).cell? ⟨w.heap.size, 1, none⟩ = some (.slice av m.vs.length cv) := cell_of_block (heap_alloc_new w _) 1
  obtain ⟨N, hN0⟩ : ∃ N, N = m.vs.length := ⟨_, rfl⟩
  generalize m.ns.length = NN at *
  rw [← hN0] at e11 l2 hB ⊢
  obtain ⟨res, hres⟩ : ∃ res, res = mVer m.vs o x := ⟨_, rfl⟩
  rw [← hres]
  obtain ⟨w2, hw2⟩ : ∃ w2, w2 = w.alloc (.cells #[.slice an NN cn, .slice av N cv] 28) := ⟨_, rfl⟩
  rw [← hw2] at hB e11
  have hV2' := Lib.hid (hV.below hB (Nat.le_refl _))
  have huV := Tryd.underlying70
  replace hres := Lib.hid hres
  replace hN0 := Lib.hid hN0
  replace okV := Lib.hid okV
  replace hB := Lib.hid hB
  replace hw2 := Lib.hid hw2
  clear hN hN1 hN2 hV hV1 hV2 okN
  have e11' : (w.alloc (.cells #[.slice an NN cn, .slice av N cv] 28)).cell? ⟨w.heap.size, 1, none⟩ = some (.slice av N cv) := by rw [← hw2.out]; exact e11
  go_enter Tryd.func13, Tryd.ntmps13
  go_wp2_with fail
  rw [← hw2.out]
  clear e11 e11'
  refine wp_loopF [(false, 7), (true, 1), (false, 1), (true, 1), (false, 3), (true, 17), (false, 1)] _ [] (fun U wr => ∃ (j n : Nat), j ≤ N ∧ n ≤ j ∧ U 13 = .int .i64 (j : Nat) ∧ U 7 = .int .i64 (n : Nat) ∧ n = mVer (m.vs.take j) o x ∧ Below w2.heap.size w2 wr) (fun U _ => N - (intOf (U 13)).toNat) ?_ ?_
  · simp only [List.getD_cons_zero, List.getD_cons_succ]
    exact ⟨0, 0, Nat.zero_le _, Nat.le_refl _, rfl, rfl, by simp [mVer], Below.refl _ _⟩
  · intro U wr hrel KK hback l' hl'
    obtain ⟨j, n, hj, hnj, h13, h7, hn, hbw⟩ := hrel
    simp only [fillS, popSeg, cond_true, cond_false, Nat.reduceAdd, h13, h7] at hl'
    subst hl'
    replace h13 := Lib.hid h13
    replace h7 := Lib.hid h7
    replace hn := Lib.hid hn
    by_cases hlt : j < N
    · have hlt2 : (j : Int) < (N : Int) := by omega
      have hjN : j < m.vs.length := by rw [← hN0.out]; exact hlt
      obtain ⟨b1, o1, rfl, hr1⟩ := (hV2'.out.below hbw (Nat.le_refl _)) j hjN
      have hstep := Lib.hid (show mVer (m.vs.take (j + 1)) o x = n + (if (decide ((m.vs[j]).o = o) && decide ((m.vs[j]).v = x)) = true then 1 else 0) by
        unfold mVer
        rw [List.take_succ_eq_append_getElem hjN, List.countP_append, hn.out]
        simp [mVer, List.countP_cons])
      generalize m.vs[j] = y at *
      obtain ⟨X, hX⟩ : ∃ X, X = y.list.toArray := ⟨_, rfl⟩
      have hX3 : X.size = 3 := by rw [hX]; rfl
      have ix : (Tryd.prog.info? 70).map (·.size) = some y.list.length := by kernel_rfl
      have iX : (Tryd.prog.info? 70).map (·.size) = some X.size := by rw [hX3]; kernel_rfl
      have zX : (#[.int .i64 0, .int .i64 0, .int .i64 0] : Array Value).size = X.size := by rw [hX3]; rfl
      have h1X : X.all (·.oneCell') = true := by rw [hX]; simp [Vd.list, Value.oneCell']
      have hX0 : X[0]? = some (.int .i64 y.o) := by rw [hX]; rfl
      have hXf : X[2]? = some (.int .i64 y.v) := by rw [hX]; rfl
      have hZ := Lib.hid (heap_alloc_new wr (.cells #[.int .i64 0, .int .i64 0, .int .i64 0] 70))
      have hsz := hbw.size
      replace hX := Lib.hid hX
      replace hX0 := Lib.hid hX0
      replace hXf := Lib.hid hXf
      replace hr1 := Lib.hid hr1
      replace hbw := Lib.hid hbw
      by_cases ho : y.o = o
      · have hoe : (y.o == o) = true := by simpa using ho
        by_cases hf : y.v = x
        · have hfe : (y.v == x) = true := by simpa using hf
          have hst := Lib.hid (show n + 1 = mVer (m.vs.take (j + 1)) o x by rw [hstep.out, if_pos (by simp [ho, hf])])
          replace ho := Lib.hid ho
          replace hf := Lib.hid hf
          go_wp2_with (first
            | ((with_reducible show wpList _ _ _ (Oper.mk _ (Op.load 70 (.tmp 15)) _ _ _ _ :: _) _ _); refine wpList_load_mid rfl 70 (.tmp 15) rfl b1 (o1 + j * 3) rfl y.list _ hr1.out huV rfl ix ?_; rw [← hX.out])
            | ((with_reducible show wpList _ _ _ (Oper.mk _ (Op.store 70 (.tmp 9) _) _ _ _ _ :: _) _ _); (refine wpList_store_row rfl 70 (.tmp 9) (.tmp 16) rfl wr.heap.size _ X rfl rfl hZ iX zX h1X ?_); intro w3 hU3; have hb3 : Below wr.heap.size wr w3 := (Below.alloc (Below.refl wr.heap.size wr) (Nat.le_refl _) _).trans (hU3.out.below (Nat.le_refl _)); have k0 : w3.cell? ⟨wr.heap.size, 0, none⟩ = some (.int .i64 y.o) := (by rw [cell_of_block hU3.out.here]; exact hX0.out); have kf : w3.cell? ⟨wr.heap.size, 2, none⟩ = some (.int .i64 y.v) := (by rw [cell_of_block hU3.out.here]; exact hXf.out); have hb2 := Lib.hid (hbw.out.trans (hb3.mono hsz)); clear hb3 hU3))
          refine hback.out _ _ (by kernel_rfl) ?_ ?_
          · simp only [List.getD_cons_zero, List.getD_cons_succ]
            exact ⟨j + 1, n + 1, hlt, by omega, by go_num, by go_num, hst.out, hb2.out⟩
          · have h13 := h13.out
            simp only [List.getD_cons_zero, List.getD_cons_succ, h13, intOf]
            omega
        · have hfe : (y.v == x) = false := by simpa using hf
          have hst := Lib.hid (show n = mVer (m.vs.take (j + 1)) o x by rw [hstep.out, if_neg (by simp [hf])]; rfl)
          replace ho := Lib.hid ho
          replace hf := Lib.hid hf
          go_wp2_with (first
            | ((with_reducible show wpList _ _ _ (Oper.mk _ (Op.load 70 (.tmp 15)) _ _ _ _ :: _) _ _); refine wpList_load_mid rfl 70 (.tmp 15) rfl b1 (o1 + j * 3) rfl y.list _ hr1.out huV rfl ix ?_; rw [← hX.out])
            | ((with_reducible show wpList _ _ _ (Oper.mk _ (Op.store 70 (.tmp 9) _) _ _ _ _ :: _) _ _); (refine wpList_store_row rfl 70 (.tmp 9) (.tmp 16) rfl wr.heap.size _ X rfl rfl hZ iX zX h1X ?_); intro w3 hU3; have hb3 : Below wr.heap.size wr w3 := (Below.alloc (Below.refl wr.heap.size wr) (Nat.le_refl _) _).trans (hU3.out.below (Nat.le_refl _)); have k0 : w3.cell? ⟨wr.heap.size, 0, none⟩ = some (.int .i64 y.o) := (by rw [cell_of_block hU3.out.here]; exact hX0.out); have kf : w3.cell? ⟨wr.heap.size, 2, none⟩ = some (.int .i64 y.v) := (by rw [cell_of_block hU3.out.here]; exact hXf.out); have hb2 := Lib.hid (hbw.out.trans (hb3.mono hsz)); clear hb3 hU3))
          refine hback.out _ _ (by kernel_rfl) ?_ ?_
          · simp only [List.getD_cons_zero, List.getD_cons_succ]
            exact ⟨j + 1, n, hlt, by omega, by go_num, rfl, hst.out, hb2.out⟩
          · have h13 := h13.out
            simp only [List.getD_cons_zero, List.getD_cons_succ, h13, intOf]
            omega
      · have hoe : (y.o == o) = false := by simpa using ho
        have hst := Lib.hid (show n = mVer (m.vs.take (j + 1)) o x by rw [hstep.out, if_neg (by simp [ho])]; rfl)
        replace ho := Lib.hid ho
        go_wp2_with (first
            | ((with_reducible show wpList _ _ _ (Oper.mk _ (Op.load 70 (.tmp 15)) _ _ _ _ :: _) _ _); refine wpList_load_mid rfl 70 (.tmp 15) rfl b1 (o1 + j * 3) rfl y.list _ hr1.out huV rfl ix ?_; rw [← hX.out])
            | ((with_reducible show wpList _ _ _ (Oper.mk _ (Op.store 70 (.tmp 9) _) _ _ _ _ :: _) _ _); (refine wpList_store_row rfl 70 (.tmp 9) (.tmp 16) rfl wr.heap.size _ X rfl rfl hZ iX zX h1X ?_); intro w3 hU3; have hb3 : Below wr.heap.size wr w3 := (Below.alloc (Below.refl wr.heap.size wr) (Nat.le_refl _) _).trans (hU3.out.below (Nat.le_refl _)); have k0 : w3.cell? ⟨wr.heap.size, 0, none⟩ = some (.int .i64 y.o) := (by rw [cell_of_block hU3.out.here]; exact hX0.out); have kf : w3.cell? ⟨wr.heap.size, 2, none⟩ = some (.int .i64 y.v) := (by rw [cell_of_block hU3.out.here]; exact hXf.out); have hb2 := Lib.hid (hbw.out.trans (hb3.mono hsz)); clear hb3 hU3))
        refine hback.out _ _ (by kernel_rfl) ?_ ?_
        · simp only [List.getD_cons_zero, List.getD_cons_succ]
          exact ⟨j + 1, n, hlt, by omega, by go_num, rfl, hst.out, hb2.out⟩
        · have h13 := h13.out
          simp only [List.getD_cons_zero, List.getD_cons_succ, h13, intOf]
          omega
    · obtain rfl : N = j := by omega
      have hnr : n = res := by rw [hn.out, hres.out, hN0.out, List.take_length]
      have hBf := Lib.hid (hB.out.trans (hbw.mono hB.out.size))
      clear hback h7 hn
      subst hnr
      go_wp2_with fail
      go_ret
      exact ⟨rfl, hBf.out⟩
end Go.Proofs.YtndgacjfkoliaaaDoor
