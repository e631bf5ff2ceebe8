/- baileeref34.Left. Printed by genrleft.py. -/
import Derived.Test.YtndgacjfkoliaaaDoorF23PlaysSaid34
namespace Go.Proofs.YtndgacjfkoliaaaDoor
open Go.RowKit
set_option linter.unusedSimpArgs false
set_option linter.unusedVariables false

/-- What is left of s behind n verdicts. -/
def lftN (s n : Nat) : Nat := s - n
set_option maxRecDepth 100000 in
set_option maxHeartbeats 2000000 in
theorem rleft_any (va : Value) (m : Md) (w : World) (ha : ArgM w va m) (l1 : m.ns.length ≤ 1000) (l2 : m.vs.length ≤ 1000) (q : Int) (hpn : ∀ x ∈ m.ns, 0 ≤ x.p.n ∧ x.p.n ≤ 1000) :
    Calls Tryd.prog 12 #[va, .int .i64 q] w fun e w' => e = .returned (.int .i64 (mLeft m q)) ∧ Below w.heap.size w w' := by
  obtain ⟨⟨an, cn, av, cv, rfl, hN, -, -, hV, -, -⟩, okN, okV⟩ := ha
  have hB : Below w.heap.size w (w.alloc (.cells #[.slice an m.ns.length cn, .slice av m.vs.length cv] 32)) := (Below.refl _ _).alloc (Nat.le_refl _) _
  have e10 : (w.alloc (.cells #[.slice an m.ns.length cn, .slice av m.vs.length cv] 32)).cell? ⟨w.heap.size, 0, none⟩ = some (.slice an m.ns.length cn) := cell_of_block (heap_alloc_new w _) 0
  have e11 : (w.alloc (.cells #[.slice an m.ns.length cn, .slice av m.vs.length cv] 32)).cell? ⟨w.heap.size, 1, none⟩ = some (.slice av m.vs.length cv) := cell_of_block (heap_alloc_new w _) 1
  by_cases h1 : 0 ≤ q ∧ q < m.ns.length
  · obtain ⟨i, rfl⟩ : ∃ i : Nat, q = (i : Int) := ⟨q.toNat, by omega⟩
    have hi : i < m.ns.length := by omega
    obtain ⟨b, o, hab, hr⟩ := hN i hi
    subst hab
    have ok := hpn _ (List.getElem_mem hi)
    have hmL : mLeft m (i : Int) = max ((m.ns[i]).p.n - (mCnt m.vs (i : Int) 2 : Nat)) 0 := by
      unfold mLeft
      rw [if_neg (by omega)]
      simp [List.getD_eq_getElem?_getD, List.getElem?_eq_getElem hi]
    have kp : w.cell? ⟨b, o + i * 40 + 2, none⟩ = some (.int .i64 (m.ns[i]).p.n) := hr 2 _ rfl
    have kp2 := (hB.cell (World.block_lt_of_cell? w _ kp)).trans kp
    obtain ⟨S, hS⟩ : ∃ S : Nat, (m.ns[i]).p.n = (S : Int) := ⟨((m.ns[i]).p.n).toNat, by omega⟩
    rw [hS] at kp2 hmL ok
    have hSb : S ≤ 1000 := by omega
    have hres : mLeft m (i : Int) = ((S - mCnt m.vs (i : Int) 2 : Nat) : Int) := by rw [hmL]; omega
    rw [hres]
    obtain ⟨N, hNl⟩ : ∃ N, N = m.ns.length := ⟨_, rfl⟩
    obtain ⟨V, hVl⟩ : ∃ V, V = m.vs.length := ⟨_, rfl⟩
    rw [← hNl, ← hVl] at e10 e11 kp2 hB
    rw [← hNl, ← hVl]
    have hii : (i : Int) < (N : Int) := by rw [hNl]; omega
    have hVb : V ≤ 1000 := by rw [hVl]; exact l2
    have hx1 : decide (N ≤ i) = false := decide_eq_false (by omega)
    have hx2 : decide ((i : Int) < 0) = false := decide_eq_false (by omega)
    obtain ⟨res, hre⟩ : ∃ res, res = S - mCnt m.vs (i : Int) 2 := ⟨_, rfl⟩
    rw [← hre]
    obtain ⟨w2, hw2⟩ : ∃ w2, w2 = w.alloc (.cells #[.slice (some ⟨b, o, none⟩) N cn, .slice av V cv] 32) := ⟨_, rfl⟩
    rw [← hw2] at hB
    have hV2 := Lib.hid (hV.below hB (Nat.le_refl _))
    have huV := Tryd.underlying46
    replace hre := Lib.hid hre
    replace hNl := Lib.hid hNl
    replace hVl := Lib.hid hVl
    replace hB := Lib.hid hB
    replace hw2 := Lib.hid hw2
    clear hN hV okN okV hr ok hmL kp hS hres hpn h1 l1 l2 hi
    go_enter Tryd.func12, Tryd.ntmps12
    go_wp2_with fail
    rw [← hw2.out]
    clear e10 e11 kp2
    refine wp_loopF [(false, 5), (true, 1), (false, 1), (true, 1), (false, 19), (true, 20), (false, 3)] _ [] (fun U wr => ∃ (j n : Nat), j ≤ V ∧ n ≤ S ∧ U 27 = .int .i64 (j : Nat) ∧ U 5 = .int .i64 (n : Nat) ∧ n = S - mCnt (m.vs.take j) (i : Int) 2 ∧ Below w2.heap.size w2 wr) (fun U _ => V - (intOf (U 27)).toNat) ?_ ?_
    · simp only [List.getD_cons_zero, List.getD_cons_succ]
      exact ⟨0, S, Nat.zero_le _, Nat.le_refl _, rfl, rfl, by simp [mCnt], Below.refl _ _⟩
    · intro U wr hrel KK hback l' hl'
      obtain ⟨j, n, hj, hnS, h27, h5, hn, hbw⟩ := hrel
      simp only [fillS, popSeg, cond_true, cond_false, Nat.reduceAdd, h27, h5] at hl'
      subst hl'
      replace h27 := Lib.hid h27
      replace h5 := Lib.hid h5
      replace hn := Lib.hid hn
      by_cases hlt : j < V
      · have hlt2 : (j : Int) < (V : Int) := by omega
        have hjN : j < m.vs.length := by rw [← hVl.out]; exact hlt
        obtain ⟨b1, o1, rfl, hr1⟩ := (hV2.out.below hbw (Nat.le_refl _)) j hjN
        have hstep := Lib.hid (show mCnt (m.vs.take (j + 1)) (i : Int) 2 = mCnt (m.vs.take j) (i : Int) 2 + (if (decide ((m.vs[j]).o = (i : Int)) && decide ((m.vs[j]).w = 2)) = true then 1 else 0) by
          unfold mCnt
          rw [List.take_succ_eq_append_getElem hjN, List.countP_append]
          simp [List.countP_cons])
        generalize m.vs[j] = y at *
        obtain ⟨X, hX⟩ : ∃ X, X = y.list.toArray := ⟨_, rfl⟩
        have hX3 : X.size = 3 := by rw [hX]; rfl
        have ix : (Tryd.prog.info? 46).map (·.size) = some y.list.length := by kernel_rfl
        have iX : (Tryd.prog.info? 46).map (·.size) = some X.size := by rw [hX3]; kernel_rfl
        have zX : (#[.int .i64 0, .int .i64 0, .int .i64 0] : Array Value).size = X.size := by rw [hX3]; rfl
        have h1X : X.all (·.oneCell') = true := by rw [hX]; simp [Vd.list, Value.oneCell']
        have hX0 : X[0]? = some (.int .i64 y.o) := by rw [hX]; rfl
        have hXf : X[1]? = some (.int .i64 y.w) := by rw [hX]; rfl
        have hZ := Lib.hid (heap_alloc_new wr (.cells #[.int .i64 0, .int .i64 0, .int .i64 0] 46))
        have hsz := hbw.size
        replace hX := Lib.hid hX
        replace hX0 := Lib.hid hX0
        replace hXf := Lib.hid hXf
        replace hr1 := Lib.hid hr1
        replace hbw := Lib.hid hbw
        by_cases ho : y.o = (i : Int)
        · have hoe : (y.o == (i : Int)) = true := by simpa using ho
          by_cases hf : y.w = 2
          · have hfe : (y.w == 2) = true := by simpa using hf
            by_cases h0 : n = 0
            · have hst := Lib.hid (show n = S - mCnt (m.vs.take (j + 1)) (i : Int) 2 by rw [hstep.out, if_pos (by simp [ho, hf])]; have := hn.out; omega)
              replace ho := Lib.hid ho
              replace hf := Lib.hid hf
              subst h0
              go_wp2_with (first
          | ((with_reducible show wpList _ _ _ (Oper.mk _ (Op.load 46 (.tmp 29)) _ _ _ _ :: _) _ _); refine wpList_load_mid rfl 46 (.tmp 29) rfl b1 (o1 + j * 3) rfl y.list _ hr1.out huV rfl ix ?_; rw [← hX.out])
          | ((with_reducible show wpList _ _ _ (Oper.mk _ (Op.store 46 (.tmp 7) _) _ _ _ _ :: _) _ _); (refine wpList_store_row rfl 46 (.tmp 7) (.tmp 30) rfl wr.heap.size _ X rfl rfl hZ iX zX h1X ?_); intro w3 hU3; have hb3 : Below wr.heap.size wr w3 := (Below.alloc (Below.refl wr.heap.size wr) (Nat.le_refl _) _).trans (hU3.out.below (Nat.le_refl _)); have k0 : w3.cell? ⟨wr.heap.size, 0, none⟩ = some (.int .i64 y.o) := (by rw [cell_of_block hU3.out.here]; exact hX0.out); have kf : w3.cell? ⟨wr.heap.size, 1, none⟩ = some (.int .i64 y.w) := (by rw [cell_of_block hU3.out.here]; exact hXf.out); have hb2 := Lib.hid (hbw.out.trans (hb3.mono hsz)); clear hb3 hU3))
              refine hback.out _ _ (by kernel_rfl) ?_ ?_
              · simp only [List.getD_cons_zero, List.getD_cons_succ]
                exact ⟨j + 1, 0, hlt, by omega, by go_num, rfl, hst.out, hb2.out⟩
              · have h27 := h27.out
                simp only [List.getD_cons_zero, List.getD_cons_succ, h27, intOf]
                omega
            · obtain ⟨p, rfl⟩ : ∃ p, n = p + 1 := ⟨n - 1, by omega⟩
              have hst := Lib.hid (show p = S - mCnt (m.vs.take (j + 1)) (i : Int) 2 by rw [hstep.out, if_pos (by simp [ho, hf])]; have := hn.out; omega)
              have hgt : (0 : Int) < ((p + 1 : Nat) : Int) := by omega
              replace ho := Lib.hid ho
              replace hf := Lib.hid hf
              go_wp2_with (first
          | ((with_reducible show wpList _ _ _ (Oper.mk _ (Op.load 46 (.tmp 29)) _ _ _ _ :: _) _ _); refine wpList_load_mid rfl 46 (.tmp 29) rfl b1 (o1 + j * 3) rfl y.list _ hr1.out huV rfl ix ?_; rw [← hX.out])
          | ((with_reducible show wpList _ _ _ (Oper.mk _ (Op.store 46 (.tmp 7) _) _ _ _ _ :: _) _ _); (refine wpList_store_row rfl 46 (.tmp 7) (.tmp 30) rfl wr.heap.size _ X rfl rfl hZ iX zX h1X ?_); intro w3 hU3; have hb3 : Below wr.heap.size wr w3 := (Below.alloc (Below.refl wr.heap.size wr) (Nat.le_refl _) _).trans (hU3.out.below (Nat.le_refl _)); have k0 : w3.cell? ⟨wr.heap.size, 0, none⟩ = some (.int .i64 y.o) := (by rw [cell_of_block hU3.out.here]; exact hX0.out); have kf : w3.cell? ⟨wr.heap.size, 1, none⟩ = some (.int .i64 y.w) := (by rw [cell_of_block hU3.out.here]; exact hXf.out); have hb2 := Lib.hid (hbw.out.trans (hb3.mono hsz)); clear hb3 hU3))
              refine hback.out _ _ (by kernel_rfl) ?_ ?_
              · simp only [List.getD_cons_zero, List.getD_cons_succ]
                exact ⟨j + 1, p, hlt, by omega, by go_num, by go_num, hst.out, hb2.out⟩
              · have h27 := h27.out
                simp only [List.getD_cons_zero, List.getD_cons_succ, h27, intOf]
                omega
          · have hfe : (y.w == 2) = false := by simpa using hf
            have hst := Lib.hid (show n = S - mCnt (m.vs.take (j + 1)) (i : Int) 2 by rw [hstep.out, if_neg (by simp [hf])]; exact hn.out)
            replace ho := Lib.hid ho
            replace hf := Lib.hid hf
            go_wp2_with (first
          | ((with_reducible show wpList _ _ _ (Oper.mk _ (Op.load 46 (.tmp 29)) _ _ _ _ :: _) _ _); refine wpList_load_mid rfl 46 (.tmp 29) rfl b1 (o1 + j * 3) rfl y.list _ hr1.out huV rfl ix ?_; rw [← hX.out])
          | ((with_reducible show wpList _ _ _ (Oper.mk _ (Op.store 46 (.tmp 7) _) _ _ _ _ :: _) _ _); (refine wpList_store_row rfl 46 (.tmp 7) (.tmp 30) rfl wr.heap.size _ X rfl rfl hZ iX zX h1X ?_); intro w3 hU3; have hb3 : Below wr.heap.size wr w3 := (Below.alloc (Below.refl wr.heap.size wr) (Nat.le_refl _) _).trans (hU3.out.below (Nat.le_refl _)); have k0 : w3.cell? ⟨wr.heap.size, 0, none⟩ = some (.int .i64 y.o) := (by rw [cell_of_block hU3.out.here]; exact hX0.out); have kf : w3.cell? ⟨wr.heap.size, 1, none⟩ = some (.int .i64 y.w) := (by rw [cell_of_block hU3.out.here]; exact hXf.out); have hb2 := Lib.hid (hbw.out.trans (hb3.mono hsz)); clear hb3 hU3))
            refine hback.out _ _ (by kernel_rfl) ?_ ?_
            · simp only [List.getD_cons_zero, List.getD_cons_succ]
              exact ⟨j + 1, n, hlt, by omega, by go_num, rfl, hst.out, hb2.out⟩
            · have h27 := h27.out
              simp only [List.getD_cons_zero, List.getD_cons_succ, h27, intOf]
              omega
        · have hoe : (y.o == (i : Int)) = false := by simpa using ho
          have hst := Lib.hid (show n = S - mCnt (m.vs.take (j + 1)) (i : Int) 2 by rw [hstep.out, if_neg (by simp [ho])]; exact hn.out)
          replace ho := Lib.hid ho
          go_wp2_with (first
          | ((with_reducible show wpList _ _ _ (Oper.mk _ (Op.load 46 (.tmp 29)) _ _ _ _ :: _) _ _); refine wpList_load_mid rfl 46 (.tmp 29) rfl b1 (o1 + j * 3) rfl y.list _ hr1.out huV rfl ix ?_; rw [← hX.out])
          | ((with_reducible show wpList _ _ _ (Oper.mk _ (Op.store 46 (.tmp 7) _) _ _ _ _ :: _) _ _); (refine wpList_store_row rfl 46 (.tmp 7) (.tmp 30) rfl wr.heap.size _ X rfl rfl hZ iX zX h1X ?_); intro w3 hU3; have hb3 : Below wr.heap.size wr w3 := (Below.alloc (Below.refl wr.heap.size wr) (Nat.le_refl _) _).trans (hU3.out.below (Nat.le_refl _)); have k0 : w3.cell? ⟨wr.heap.size, 0, none⟩ = some (.int .i64 y.o) := (by rw [cell_of_block hU3.out.here]; exact hX0.out); have kf : w3.cell? ⟨wr.heap.size, 1, none⟩ = some (.int .i64 y.w) := (by rw [cell_of_block hU3.out.here]; exact hXf.out); have hb2 := Lib.hid (hbw.out.trans (hb3.mono hsz)); clear hb3 hU3))
          refine hback.out _ _ (by kernel_rfl) ?_ ?_
          · simp only [List.getD_cons_zero, List.getD_cons_succ]
            exact ⟨j + 1, n, hlt, by omega, by go_num, rfl, hst.out, hb2.out⟩
          · have h27 := h27.out
            simp only [List.getD_cons_zero, List.getD_cons_succ, h27, intOf]
            omega
      · obtain rfl : V = j := by omega
        have hnr : n = res := by rw [hn.out, hre.out, hVl.out, List.take_length]
        have hBf := Lib.hid (hB.out.trans (hbw.mono hB.out.size))
        have hn0 : ¬ ((n : Int) < 0) := by omega
        clear hback h5 hn
        subst hnr
        go_wp2_with fail
        go_ret
        exact ⟨rfl, hBf.out⟩
  · have hmL : mLeft m q = 0 := by
      unfold mLeft
      rw [if_pos (by omega)]
    rw [hmL]
    have h2 : q < 0 ∨ (¬ q < 0 ∧ (m.ns.length : Int) ≤ q) := by omega
    generalize m.ns.length = N at *
    generalize m.vs.length = V at *
    replace hB := Lib.hid hB
    clear hN hV okN okV hpn h1 hmL
    rcases h2 with h2 | ⟨h3, h2⟩
    all_goals
      go_enter Tryd.func12, Tryd.ntmps12
      go_wp2_with fail
      go_ret
      exact ⟨rfl, hB.out⟩
end Go.Proofs.YtndgacjfkoliaaaDoor
