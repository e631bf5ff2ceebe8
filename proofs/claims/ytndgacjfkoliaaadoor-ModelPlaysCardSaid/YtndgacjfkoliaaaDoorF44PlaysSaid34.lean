/- baileelaw34.Long, ModelPlays. Printed by genmlaw.py. -/
import Derived.Test.YtndgacjfkoliaaaDoorF40PlaysSaid34
import Derived.Test.YtndgacjfkoliaaaDoorF43PlaysSaid34
import Derived.Test.YtndgacjfkoliaaaDoorF6PlaysSaid34
import Derived.Test.YtndgacjfkoliaaaDoorF5PlaysSaid34
import Derived.Test.YtndgacjfkoliaaaDoorF4PlaysSaid34
namespace Go.Proofs.YtndgacjfkoliaaaDoor
open Go.RowKit
set_option linter.unusedSimpArgs false
set_option linter.unusedVariables false

def zAc : Array Value := (default : Ac).list.toArray
theorem zAc_run (w : World) : (zeroValue 37).run Tryd.prog w = .ok (.agg zAc) w := by kernel_rfl
theorem zAc_size : zAc.size = 43 := by kernel_rfl
theorem zAc_ne : zAc ≠ #[] := fun e => by have := zAc_size; rw [e] at this; cases this
def longA (xs : List Ac) : Bool := decide (40 < xs.length) || xs.any (fun x => decide (100 < x.s.size))
theorem longA_no {xs : List Ac} (h : longA xs = false) : xs.length ≤ 40 ∧ ∀ x ∈ xs, x.s.size ≤ 100 := by
  unfold longA at h
  rw [Bool.or_eq_false_iff] at h
  refine ⟨by simpa using h.1, fun x hx => ?_⟩
  have := List.any_eq_false.1 h.2 x hx
  simpa using this
set_option maxRecDepth 100000 in
set_option maxHeartbeats 2000000 in
theorem long_any (a0 : Option Addr) (c0 : Nat) (xs : List Ac) (w : World) (hx : RowAt Ac.list 43 w a0 xs) (okX : ∀ x ∈ xs, x.Ok) :
    Calls Tryd.prog 5 #[.slice a0 xs.length c0] w fun e w' => e = .returned (.bool (longA xs)) ∧ Below w.heap.size w w' := by
  obtain ⟨N, hN⟩ : ∃ N, N = xs.length := ⟨_, rfl⟩
  rw [← hN]
  obtain ⟨res, hres⟩ : ∃ res, res = longA xs := ⟨_, rfl⟩
  rw [← hres]
  have zr := zAc_run
  have zn := zAc_ne
  have huA := Tryd.underlying37
  by_cases h40 : 40 < N
  · have hl : (40 : Int) < (N : Int) := by omega
    have hr : res = true := by rw [hres]; unfold longA; rw [decide_eq_true (by rw [← hN]; exact h40)]; rfl
    subst hr
    clear hx okX h40 hN hres
    go_enter Tryd.func5, Tryd.ntmps5
    go_wp2_with fail
    go_ret
    exact ⟨rfl, Below.refl _ _⟩
  have hl : ¬ (40 : Int) < (N : Int) := by omega
  replace hx := Lib.hid hx
  replace okX := Lib.hid okX
  replace hres := Lib.hid hres
  have hNb : N ≤ 40 := by omega
  replace hN := Lib.hid hN
  clear h40
  go_enter Tryd.func5, Tryd.ntmps5
  go_wp2_with fail
  refine wp_loopF [(false, 4), (true, 1), (false, 5), (true, 9)] _ [] (fun U wr => ∃ j : Nat, j ≤ N ∧ U 10 = .int .i64 (j : Nat) ∧ Below w.heap.size w wr ∧ ∀ i (hi : i < xs.length), i < j → xs[i].s.size ≤ 100) (fun U _ => N - (intOf (U 10)).toNat) ?_ ?_
  · simp only [List.getD_cons_zero, List.getD_cons_succ]
    exact ⟨0, Nat.zero_le _, rfl, Below.refl _ _, fun i _ hi => absurd hi (Nat.not_lt_zero _)⟩
  · intro U wr hrel KK hback l' hl'
    obtain ⟨j, hj, h10, hbw, hall⟩ := hrel
    simp only [fillS, popSeg, cond_true, cond_false, Nat.reduceAdd, h10] at hl'
    subst hl'
    replace h10 := Lib.hid h10
    replace hall := Lib.hid hall
    by_cases hlt : j < N
    · have hlt2 : (j : Int) < (N : Int) := by omega
      have hjN : j < xs.length := by rw [← hN.out]; exact hlt
      obtain ⟨b1, o1, rfl, hr1⟩ := (hx.out.below hbw (Nat.le_refl _)) j hjN
      have ox := okX.out _ (List.getElem_mem hjN)
      have hhit := Lib.hid (fun (e : 100 < xs[j].s.size) => show res = true by rw [hres.out]; unfold longA; rw [show xs.any (fun x => decide (100 < x.s.size)) = true from by rw [List.any_eq_true]; exact ⟨xs[j], List.getElem_mem hjN, by simpa using e⟩, Bool.or_true])
      have hstep := Lib.hid (fun (e : xs[j].s.size ≤ 100) => show ∀ i (hi : i < xs.length), i < j + 1 → xs[i].s.size ≤ 100 from fun i hi hij => by
        by_cases hij2 : i < j
        · exact hall.out i hi hij2
        · obtain rfl : i = j := by omega
          exact e)
      generalize xs[j] = x at *
      obtain ⟨X, hX⟩ : ∃ X, X = x.list.toArray := ⟨_, rfl⟩
      have hX43 : X.size = 43 := by rw [hX]; exact Ac.size ox
      have ix : (Tryd.prog.info? 37).map (·.size) = some x.list.length := by rw [Ac.len ox.f]; kernel_rfl
      have iX : (Tryd.prog.info? 37).map (·.size) = some X.size := by rw [hX43]; kernel_rfl
      have zX : zAc.size = X.size := by rw [hX43]; exact zAc_size
      have h1X : X.all (·.oneCell') = true := by rw [hX]; exact Ac.all_one x
      have hX4 : X[4]? = some (.string x.s) := by rw [hX]; rfl
      have hZ := Lib.hid (heap_alloc_new wr (.cells zAc 37))
      have hsz := hbw.size
      obtain ⟨NS, hNS⟩ : ∃ NS, NS = x.s.size := ⟨_, rfl⟩
      rw [← hNS] at hhit hstep
      replace hX := Lib.hid hX
      replace hX4 := Lib.hid hX4
      replace hr1 := Lib.hid hr1
      replace hbw := Lib.hid hbw
      replace ox := Lib.hid ox
      by_cases h100 : 100 < NS
      · obtain rfl := hhit.out h100
        have h1 : (100 : Int) < (x.s.size : Int) := by omega
        clear hback h100 hNS hhit hstep
        go_wp2_with (first
          | ((with_reducible show wpList _ _ _ (Oper.mk _ (Op.load 37 (.tmp 12)) _ _ _ _ :: _) _ _); refine wpList_load_mid rfl 37 (.tmp 12) rfl b1 (o1 + j * 43) rfl x.list _ hr1.out huA rfl ix ?_; rw [← hX.out]; simp only [Act.put, List.setIfInBounds_toArray, List.set_cons_zero, List.set_cons_succ])
          | ((with_reducible show wpList _ _ _ (Oper.mk _ (Op.store 37 (.tmp 4) _) _ _ _ _ :: _) _ _); (refine wpList_store_row rfl 37 (.tmp 4) (.tmp 13) rfl wr.heap.size _ X rfl rfl hZ iX zX h1X ?_); intro w5 hU5; have hb : Below wr.heap.size wr w5 := (Below.alloc (Below.refl wr.heap.size wr) (Nat.le_refl _) _).trans (hU5.out.below (Nat.le_refl _)); have k4 : w5.cell? ⟨wr.heap.size, 4, none⟩ = some (.string x.s) := (by rw [cell_of_block hU5.out.here]; exact hX4.out); have hb5 := Lib.hid (hbw.out.trans (hb.mono hsz)); clear hb hU5; simp only [Act.put, List.setIfInBounds_toArray, List.set_cons_zero, List.set_cons_succ]))
        go_ret
        exact ⟨rfl, hb5.out⟩
      · have h1 : ¬ (100 : Int) < (x.s.size : Int) := by omega
        have hst := Lib.hid (hstep.out (by omega))
        clear h100 hNS hhit hstep
        go_wp2_with (first
          | ((with_reducible show wpList _ _ _ (Oper.mk _ (Op.load 37 (.tmp 12)) _ _ _ _ :: _) _ _); refine wpList_load_mid rfl 37 (.tmp 12) rfl b1 (o1 + j * 43) rfl x.list _ hr1.out huA rfl ix ?_; rw [← hX.out]; simp only [Act.put, List.setIfInBounds_toArray, List.set_cons_zero, List.set_cons_succ])
          | ((with_reducible show wpList _ _ _ (Oper.mk _ (Op.store 37 (.tmp 4) _) _ _ _ _ :: _) _ _); (refine wpList_store_row rfl 37 (.tmp 4) (.tmp 13) rfl wr.heap.size _ X rfl rfl hZ iX zX h1X ?_); intro w5 hU5; have hb : Below wr.heap.size wr w5 := (Below.alloc (Below.refl wr.heap.size wr) (Nat.le_refl _) _).trans (hU5.out.below (Nat.le_refl _)); have k4 : w5.cell? ⟨wr.heap.size, 4, none⟩ = some (.string x.s) := (by rw [cell_of_block hU5.out.here]; exact hX4.out); have hb5 := Lib.hid (hbw.out.trans (hb.mono hsz)); clear hb hU5; simp only [Act.put, List.setIfInBounds_toArray, List.set_cons_zero, List.set_cons_succ]))
        refine hback.out _ _ (by kernel_rfl) ?_ ?_
        · simp only [List.getD_cons_zero, List.getD_cons_succ]
          exact ⟨j + 1, hlt, by go_num, hb5.out, hst.out⟩
        · have h10 := h10.out
          simp only [List.getD_cons_zero, List.getD_cons_succ, h10, intOf]
          omega
    · obtain rfl : N = j := by omega
      have hr : res = false := by
        rw [hres.out]
        unfold longA
        rw [Bool.or_eq_false_iff]
        refine ⟨by rw [decide_eq_false_iff_not, ← hN.out]; omega, List.any_eq_false.2 (fun x hx' => ?_)⟩
        obtain ⟨i, hi, rfl⟩ := List.getElem_of_mem hx'
        have := hall.out i hi (by rw [hN.out]; exact hi)
        simpa using this
      subst hr
      replace hbw := Lib.hid hbw
      clear hback hall h10
      go_wp2_with fail
      go_ret
      exact ⟨rfl, hbw.out⟩
theorem growsM_not {a b : Md} (h : ¬ a.ns.length ≤ b.ns.length) : growsM a b = false := by
  unfold growsM
  rw [decide_eq_false h]
  rfl
set_option maxRecDepth 100000 in
set_option maxHeartbeats 8000000 in
theorem plays34_law (a0 : Option Addr) (c0 : Nat) (xs : List Ac) (q : Int) (w : World) (hx : RowAt Ac.list 43 w a0 xs) (okX : ∀ x ∈ xs, x.Ok) (ea : Nat → Addr) (H : Errs 137 errGs w ea) :
    Calls Tryd.prog 3 #[.slice a0 xs.length c0, .int .i64 q] w fun x w' => x = .returned (.bool true) ∧ Below w.heap.size w w' := by
  have hal := Lib.hid (alive34_any w (pz ea) (par_of H) (ea 12) ((num_cells H).2.2.2.2.2.2.2.2.2.2.2.2.1))
  have hlg := Lib.hid (fun W (h : Below w.heap.size w W) => long_any a0 c0 xs W (hx.below h (Nat.le_refl _)) okX)
  obtain ⟨N, hN⟩ : ∃ N, N = xs.length := ⟨_, rfl⟩
  rw [← hN] at hlg ⊢
  have hlo : longA xs = false → N ≤ 40 ∧ ∀ x ∈ xs, x.s.size ≤ 100 := fun h => by rw [hN]; exact longA_no h
  replace hx := Lib.hid hx
  replace okX := Lib.hid okX
  replace hN := Lib.hid hN
  replace H := Lib.hid H
  have zr := zAc_run
  have zn := zAc_ne
  by_cases hL : longA xs = true
  · rw [hL] at hlg
    clear hlo hL
    go_enter Tryd.func3, Tryd.ntmps3
    go_wp2_with fail
    with_reducible refine hal.out.mono ?_
    rintro e w1 ⟨rfl, hb1⟩
    have hl1 := Lib.hid (hlg.out w1 hb1)
    replace hb1 := Lib.hid hb1
    clear hal hlg
    go_wp2_with fail
    with_reducible refine hl1.out.mono ?_
    rintro e w2 ⟨rfl, hb2⟩
    have hB2 := Lib.hid (hb1.out.trans (hb2.mono hb1.out.size))
    clear hl1 hb2
    go_wp2_with fail
    go_ret
    exact ⟨rfl, hB2.out⟩
  have hLf : longA xs = false := by simpa using hL
  rw [hLf] at hlg
  obtain ⟨hN40, h100⟩ := hlo hLf
  replace h100 := Lib.hid h100
  clear hlo hL hLf
  have huM := Tryd.underlying28
  have huR := Tryd.underlying32
  have huA2 := Tryd.underlying37
  have huV := Tryd.underlying46
  have iM0 : (Tryd.prog.info? 28).map (·.size) = some (#[.slice none 0 0, .slice none 0 0] : Array Value).size := by kernel_rfl
  have iR0 : (Tryd.prog.info? 32).map (·.size) = some (#[.slice none 0 0, .slice none 0 0] : Array Value).size := by kernel_rfl
  go_enter Tryd.func3, Tryd.ntmps3
  go_wp2_with fail
  with_reducible refine hal.out.mono ?_
  rintro e w1 ⟨rfl, hb1⟩
  have hl1 := Lib.hid (hlg.out w1 hb1)
  replace hb1 := Lib.hid hb1
  clear hal hlg
  go_wp2_with fail
  with_reducible refine hl1.out.mono ?_
  clear hl1
  rintro e w2 ⟨rfl, hb2⟩
  obtain ⟨aS, aR, hs3, hB3⟩ := boxes2 w2 #[.slice none 0 0, .slice none 0 0] #[.slice none 0 0, .slice none 0 0] 28 32 _ rfl
  obtain ⟨w3, hw3⟩ : ∃ w3, w3 = (w2.alloc (.cells #[.slice none 0 0, .slice none 0 0] 28)).alloc (.cells #[.slice none 0 0, .slice none 0 0] 32) := ⟨_, rfl⟩
  rw [← hw3] at aS aR hs3 hB3
  have hB := Lib.hid ((hb1.out.trans (hb2.mono hb1.out.size)).trans (hB3.mono (hb1.out.trans (hb2.mono hb1.out.size)).size))
  have hbS : w.heap.size ≤ w2.heap.size := (hb1.out.trans (hb2.mono hb1.out.size)).size
  replace aS := Lib.hid aS
  replace aR := Lib.hid aR
  replace hw3 := Lib.hid hw3
  clear hb1 hb2 hB3 hs3
  go_wp2_with fail
  rw [← hw3.out]
  clear hw3
  generalize w2.heap.size = bS at *
  refine wp_loopF [(false, 7), (true, 10), (false, 8), (true, 102)] _ [] (fun U wr => ∃ (j : Nat) (m : Md) (C D : Array Value), j ≤ N ∧ U 25 = .int .i64 (j : Nat) ∧ Below w.heap.size w wr ∧ wr.heap[bS]? = some (.cells C 28 (0, 0)) ∧ wr.heap[bS + 1]? = some (.cells D 32 (0, 0)) ∧ ArgM wr (.agg C) m ∧ ArgM wr (.agg D) m ∧ MI j m) (fun U _ => N - (intOf (U 25)).toNat) ?_ ?_
  · simp only [List.getD_cons_zero, List.getD_cons_succ]
    exact ⟨0, ⟨[], []⟩, _, _, Nat.zero_le _, rfl, hB.out, aS.out, aR.out, argM_nil _, argM_nil _, mi_nil 0⟩
  · clear aS aR hB
    intro U wr hrel KK hback l' hl'
    obtain ⟨j, m, C, D, hj, h25, hbw, aS, aR, hmC, hmD, hI⟩ := hrel
    simp only [fillS, popSeg, cond_true, cond_false, Nat.reduceAdd, h25] at hl'
    subst hl'
    replace h25 := Lib.hid h25
    by_cases hlt : j < N
    · have hlt2 : (j : Int) < (N : Int) := by omega
      have hjN : j < xs.length := by rw [← hN.out]; exact hlt
      obtain ⟨b1, o1, rfl, hr1⟩ := (hx.out.below hbw (Nat.le_refl _)) j hjN
      have ox := okX.out _ (List.getElem_mem hjN)
      have hxs := h100.out _ (List.getElem_mem hjN)
      generalize xs[j] = x at *
      obtain ⟨ca, cc, ca', cc', eC⟩ := hmC.shape
      obtain ⟨da, dc, da', dc', eD⟩ := hmD.shape
      have hCl : C = #[.slice ca m.ns.length cc, .slice ca' m.vs.length cc'] := by cases eC; rfl
      have hDl : D = #[.slice da m.ns.length dc, .slice da' m.vs.length dc'] := by cases eD; rfl
      have iC : (Tryd.prog.info? 28).map (·.size) = some C.size := by rw [hCl]; kernel_rfl
      have iD : (Tryd.prog.info? 32).map (·.size) = some D.size := by rw [hDl]; kernel_rfl
      have oC : C.all (·.oneCell') = true := by rw [hCl]; simp [Value.oneCell']
      have sC : (#[.slice none 0 0, .slice none 0 0] : Array Value).size = C.size := by rw [hCl]; rfl
      obtain ⟨X, hX⟩ : ∃ X, X = x.list.toArray := ⟨_, rfl⟩
      have hX43 : X.size = 43 := by rw [hX]; exact Ac.size ox
      have ix : (Tryd.prog.info? 37).map (·.size) = some x.list.length := by rw [Ac.len ox.f]; kernel_rfl
      have iX : (Tryd.prog.info? 37).map (·.size) = some X.size := by rw [hX43]; kernel_rfl
      have zX : zAc.size = X.size := by rw [hX43]; exact zAc_size
      have h1X : X.all (·.oneCell') = true := by rw [hX]; exact Ac.all_one x
      have hZ8 := Lib.hid (heap_alloc_new wr (.cells zAc 37))
      have hst := Lib.hid (fun W (h1 : ArgM W (.agg C) m) (h2 : ArgM W (.agg D) m) (h3 : Errs 137 errGs W ea) => step_any hI (by omega) (.agg C) (.agg D) W h1 h2 x ox (by omega) ea h3)
      rw [← hX] at hst
      obtain ⟨hI2, hgr2⟩ := mAct_ok hI x
      obtain ⟨m', hm'⟩ : ∃ m', m' = mAct m x := ⟨_, rfl⟩
      rw [← hm'] at hst hI2 hgr2
      have l1 := Lib.hid (show m.ns.length ≤ 1000 from Nat.le_trans hI.nl (by decide))
      have l2 := Lib.hid (show m.vs.length ≤ 1000 by have := hI.vl; omega)
      have l3 := Lib.hid (show m'.ns.length ≤ 1000 from Nat.le_trans hI2.nl (by decide))
      have l4 := Lib.hid (show m'.vs.length ≤ 1000 by have := hI2.vl; omega)
      have hszw := hbw.size
      replace hX := Lib.hid hX
      replace hr1 := Lib.hid hr1
      replace hm' := Lib.hid hm'
      replace hbw := Lib.hid hbw
      replace hCl := Lib.hid hCl
      replace hDl := Lib.hid hDl
      replace aS := Lib.hid aS
      replace aR := Lib.hid aR
      replace hmC := Lib.hid hmC
      replace hmD := Lib.hid hmD
      replace hI2 := Lib.hid hI2
      replace hgr2 := Lib.hid hgr2
      clear hI ox hxs eC eD hX43
      go_upto_region 9 with (first
        | ((with_reducible show wpList _ _ _ (Oper.mk _ (Op.load 37 (.tmp 27)) _ _ _ _ :: _) _ _); refine wpList_load_mid rfl 37 (.tmp 27) rfl b1 (o1 + j * 43) rfl x.list _ hr1.out huA2 rfl ix ?_; rw [← hX.out]; simp only [Act.put, List.setIfInBounds_toArray, List.set_cons_zero, List.set_cons_succ])
        | ((with_reducible show wpList _ _ _ (Oper.mk _ (Op.store 37 (.tmp 8) _) _ _ _ _ :: _) _ _); (refine wpList_store_row rfl 37 (.tmp 8) (.tmp 28) rfl wr.heap.size _ X rfl rfl hZ8 iX zX h1X ?_); intro w4 hU4; have hb4 : Below wr.heap.size wr w4 := (Below.alloc (Below.refl wr.heap.size wr) (Nat.le_refl _) _).trans (hU4.out.below (Nat.le_refl _)); have a8 := Lib.hid hU4.out.here; replace hb4 := Lib.hid hb4; simp only [Act.put, List.setIfInBounds_toArray, List.set_cons_zero, List.set_cons_succ]))
      have hB4 := Lib.hid (hbw.out.trans (hb4.out.mono hszw))
      have hsz4 := hB4.out.size
      replace aS := Lib.hid ((hb4.out.block _ (block_lt aS.out)).trans aS.out)
      replace aR := Lib.hid ((hb4.out.block _ (block_lt aR.out)).trans aR.out)
      replace hmC := Lib.hid (hmC.out.below hb4.out (Nat.le_refl _))
      replace hmD := Lib.hid (hmD.out.below hb4.out (Nat.le_refl _))
      have hZ9 := Lib.hid (heap_alloc_new w4 (.cells #[.slice none 0 0, .slice none 0 0] 28))
      clear hb4 hU4 hr1 hbw hszw hZ8
      generalize wr.heap.size = b8 at *
      go_upto_region 10 with (first
        | ((with_reducible show wpList _ _ _ (Oper.mk _ (Op.load 28 (.tmp 5)) _ _ _ _ :: _) _ _); refine wpList_load_row rfl 28 (.tmp 5) rfl bS C _ rfl aS huM rfl iC ?_; simp only [Act.put, List.setIfInBounds_toArray, List.set_cons_zero, List.set_cons_succ])
        | ((with_reducible show wpList _ _ _ (Oper.mk _ (Op.store 28 (.tmp 9) _) _ _ _ _ :: _) _ _); (refine wpList_store_row rfl 28 (.tmp 9) (.tmp 29) rfl w4.heap.size _ C rfl rfl hZ9 iC sC oC ?_); intro w5 hU5; have hb5 : Below w4.heap.size w4 w5 := (Below.alloc (Below.refl w4.heap.size w4) (Nat.le_refl _) _).trans (hU5.out.below (Nat.le_refl _)); have a9 := Lib.hid hU5.out.here; replace hb5 := Lib.hid hb5; simp only [Act.put, List.setIfInBounds_toArray, List.set_cons_zero, List.set_cons_succ]))
      have hB5 := Lib.hid (hB4.out.trans (hb5.out.mono hsz4))
      have hsz5 := hB5.out.size
      replace aS := Lib.hid ((hb5.out.block _ (block_lt aS.out)).trans aS.out)
      replace aR := Lib.hid ((hb5.out.block _ (block_lt aR.out)).trans aR.out)
      replace a8 := Lib.hid ((hb5.out.block _ (block_lt a8.out)).trans a8.out)
      replace hmC := Lib.hid (hmC.out.below hb5.out (Nat.le_refl _))
      replace hmD := Lib.hid (hmD.out.below hb5.out (Nat.le_refl _))
      have hs5 := Lib.hid (hst.out w5 hmC.out hmD.out (H.out.below hB5.out))
      clear hb5 hU5 hB4 hsz4 hst hZ9
      generalize w4.heap.size = b9 at *
      go_wp2_with (first
        | ((with_reducible show wpList _ _ _ (Oper.mk _ (Op.load 28 (.tmp 5)) _ _ _ _ :: _) _ _); refine wpList_load_row rfl 28 (.tmp 5) rfl bS C _ rfl aS huM rfl iC ?_; simp only [Act.put, List.setIfInBounds_toArray, List.set_cons_zero, List.set_cons_succ])
        | ((with_reducible show wpList _ _ _ (Oper.mk _ (Op.load 32 (.tmp 6)) _ _ _ _ :: _) _ _); refine wpList_load_row rfl 32 (.tmp 6) rfl (bS + 1) D _ rfl aR huR rfl iD ?_; simp only [Act.put, List.setIfInBounds_toArray, List.set_cons_zero, List.set_cons_succ])
        | ((with_reducible show wpList _ _ _ (Oper.mk _ (Op.load 37 (.tmp 8)) _ _ _ _ :: _) _ _); refine wpList_load_row rfl 37 (.tmp 8) rfl b8 X _ rfl a8 huA2 rfl iX ?_; simp only [Act.put, List.setIfInBounds_toArray, List.set_cons_zero, List.set_cons_succ]))
      with_reducible refine hs5.out.mono ?_
      clear hs5
      rintro e w6 ⟨v1, v2, rfl, hmE, hmF, hb6⟩
      obtain ⟨ea1, ec, ea1', ec', eE⟩ := hmE.shape
      obtain ⟨fa, fc, fa', fc', eF⟩ := hmF.shape
      obtain ⟨E, hE⟩ : ∃ E : Array Value, E = #[.slice ea1 m'.ns.length ec, .slice ea1' m'.vs.length ec'] := ⟨_, rfl⟩
      obtain ⟨F, hF⟩ : ∃ F : Array Value, F = #[.slice fa m'.ns.length fc, .slice fa' m'.vs.length fc'] := ⟨_, rfl⟩
      rw [← hE] at eE
      rw [← hF] at eF
      subst eE
      subst eF
      have iE : (Tryd.prog.info? 28).map (·.size) = some E.size := by rw [hE]; kernel_rfl
      have iF : (Tryd.prog.info? 32).map (·.size) = some F.size := by rw [hF]; kernel_rfl
      have oE : E.all (·.oneCell') = true := by rw [hE]; simp [Value.oneCell']
      have oF : F.all (·.oneCell') = true := by rw [hF]; simp [Value.oneCell']
      have sE : (#[.slice none 0 0, .slice none 0 0] : Array Value).size = E.size := by rw [hE]; rfl
      have sF : (#[.slice none 0 0, .slice none 0 0] : Array Value).size = F.size := by rw [hF]; rfl
      obtain ⟨a10, a11, hs7, hb7⟩ := boxes2 w6 #[.slice none 0 0, .slice none 0 0] #[.slice none 0 0, .slice none 0 0] 28 32 _ rfl
      obtain ⟨w7, hw7⟩ : ∃ w7, w7 = (w6.alloc (.cells #[.slice none 0 0, .slice none 0 0] 28)).alloc (.cells #[.slice none 0 0, .slice none 0 0] 32) := ⟨_, rfl⟩
      rw [← hw7] at a10 a11 hs7 hb7
      have hb57 : Below w5.heap.size w5 w7 := hb6.trans (hb7.mono hb6.size)
      have hB7 := Lib.hid (hB5.out.trans (hb57.mono hsz5))
      have hsz7 := hB7.out.size
      have hbSl := Lib.hid (block_lt aR.out)
      have hb9w := Lib.hid (block_lt a9.out)
      have hs57 := hb57.size
      have hs56 := hb6.size
      replace aS := Lib.hid ((hb57.block _ (block_lt aS.out)).trans aS.out)
      replace aR := Lib.hid ((hb57.block _ (block_lt aR.out)).trans aR.out)
      replace a9 := Lib.hid ((hb57.block _ (block_lt a9.out)).trans a9.out)
      replace hmC := Lib.hid (hmC.out.below hb57 (Nat.le_refl _))
      replace hmD := Lib.hid (hmD.out.below hb57 (Nat.le_refl _))
      replace hmE := Lib.hid (hmE.below hb7 (Nat.le_refl _))
      replace hmF := Lib.hid (hmF.below hb7 (Nat.le_refl _))
      have hb9l := Lib.hid (show b9 < w6.heap.size by have := hb9w.out; omega)
      replace a10 := Lib.hid a10
      replace a11 := Lib.hid a11
      replace hE := Lib.hid hE
      replace hF := Lib.hid hF
      replace hw7 := Lib.hid hw7
      have hbl6 := Lib.hid (show bS + 1 < w6.heap.size by have := hbSl.out; omega)
      clear hb6 hb7 hb57 a8 hB5 hs7
      go_upto_region 11 with (first
        | ((with_reducible show wpList _ _ _ (Oper.mk _ (Op.store 28 (.tmp 10) _) _ _ _ _ :: _) _ _); rw [← hw7.out]; (refine wpList_store_row rfl 28 (.tmp 10) (.tmp 35) rfl w6.heap.size _ E rfl rfl a10 iE sE oE ?_); intro w8 hU8; have a11b := Lib.hid ((hU8.out.block _ (by omega)).trans a11.out); simp only [Act.put, List.setIfInBounds_toArray, List.set_cons_zero, List.set_cons_succ])
        | ((with_reducible show wpList _ _ _ (Oper.mk _ (Op.store 32 (.tmp 11) _) _ _ _ _ :: _) _ _); (refine wpList_store_row rfl 32 (.tmp 11) (.tmp 36) rfl (w6.heap.size + 1) _ F rfl rfl a11b iF sF oF ?_); intro w9 hU9; simp only [Act.put, List.setIfInBounds_toArray, List.set_cons_zero, List.set_cons_succ]))
      have hB9 := Lib.hid ((hB7.out.trans (hU8.out.below (by omega))).trans (hU9.out.below (by omega)))
      have b10 := Lib.hid ((hU9.out.block _ (by omega)).trans hU8.out.here)
      have b11 := Lib.hid hU9.out.here
      replace aS := Lib.hid ((hU9.out.block _ (by have := hbl6.out; omega)).trans ((hU8.out.block _ (by have := hbl6.out; omega)).trans aS.out))
      replace aR := Lib.hid ((hU9.out.block _ (by have := hbl6.out; omega)).trans ((hU8.out.block _ (by have := hbl6.out; omega)).trans aR.out))
      replace a9 := Lib.hid ((hU9.out.block _ (by have := hb9l.out; omega)).trans ((hU8.out.block _ (by have := hb9l.out; omega)).trans a9.out))
      replace hmC := Lib.hid ((hmC.out.updB a10.out hU8.out).updB a11b.out hU9.out)
      replace hmD := Lib.hid ((hmD.out.updB a10.out hU8.out).updB a11b.out hU9.out)
      replace hmE := Lib.hid ((hmE.out.updB a10.out hU8.out).updB a11b.out hU9.out)
      replace hmF := Lib.hid ((hmF.out.updB a10.out hU8.out).updB a11b.out hU9.out)
      have hsz9 := hB9.out.size
      clear hU8 hU9 a10 a11 a11b hw7 hB7 hsz7
      generalize w6.heap.size = b6 at *
      obtain ⟨g, hg⟩ : ∃ g, g = same34B m m' := ⟨_, rfl⟩
      replace hg := Lib.hid hg
      have hgg : (g != g) = false := by simp
      have hs1 := Lib.hid (show same34B m m = true by simp [same34B])
      have hs2 := Lib.hid (show same34B m' m' = true by simp [same34B])
      have rlA : ∀ W : World, Grown w9 W → W.heap[b6]? = some (.cells E 28 (0, 0)) := fun W hW => (hW.block _ (block_lt b10.out)).trans b10.out
      have huA := huM
      have hzA := iE
      have rlB : ∀ W : World, Grown w9 W → W.heap[b6 + 1]? = some (.cells F 32 (0, 0)) := fun W hW => (hW.block _ (block_lt b11.out)).trans b11.out
      have huB := huR
      have hzB := iF
      have rlC : ∀ W : World, Grown w9 W → W.heap[b9]? = some (.cells C 28 (0, 0)) := fun W hW => (hW.block _ (block_lt a9.out)).trans a9.out
      have huC := huM
      have hzC := iC
      have rlD : ∀ W : World, Grown w9 W → W.heap[bS + 1]? = some (.cells D 32 (0, 0)) := fun W hW => (hW.block _ (block_lt aR.out)).trans aR.out
      have huD := huR
      have hzD := iD
      have hd0 : Hid (Grown w9 w9.drew) := Lib.hid (Grown.drew (Grown.refl w9))
      go_cut [68] from 38 to 68 (fun s68 wx => s68 = .bool false ∧ Grown w9 wx)
      case first =>
        clear hback
        refine wp_region_held_drew (S := (Grown w9)) (by kernel_rfl) hd0.out (fun hOn => ?_)
        generalize World.drew w9 = wd at *
        refine wpAnyH_take (i := 0) (v := ?_) (by simp only [List.getElem?_toArray, List.getElem?_cons_zero]; rfl) (by kernel_rfl) (by kernel_rfl) (by kernel_rfl) (by exact fun _ _ _ h => h) (Or.inl ⟨by rfl, ?_⟩) hOn ?_
        rotate_left
        focus (intro W hSW; go_simp; try with_reducible rfl)
        try simp only [Act.put, List.setIfInBounds_toArray, List.set_cons_zero, List.set_cons_succ]
        refine wpAnyH_take (i := 1) (v := ?_) (by simp only [List.getElem?_toArray, List.getElem?_cons_succ, List.getElem?_cons_zero]; rfl) (by kernel_rfl) (by kernel_rfl) (by kernel_rfl) (by exact fun _ _ _ h => h) (Or.inl ⟨by rfl, ?_⟩) hOn ?_
        rotate_left
        focus (intro W hSW; go_simp; try with_reducible rfl)
        try simp only [Act.put, List.setIfInBounds_toArray, List.set_cons_zero, List.set_cons_succ]
        refine wpAnyH_take (i := 2) (v := ?_) (by simp only [List.getElem?_toArray, List.getElem?_cons_succ, List.getElem?_cons_zero]; rfl) (by kernel_rfl) (by kernel_rfl) (by kernel_rfl) (by exact fun _ _ _ h => h) (Or.inl ⟨by rfl, ?_⟩) hOn ?_
        rotate_left
        focus (intro W hSW; go_simp; try with_reducible rfl)
        try simp only [Act.put, List.setIfInBounds_toArray, List.set_cons_zero, List.set_cons_succ]
        refine wpAnyH_take (i := 3) (v := Value.agg _) (by simp only [List.getElem?_toArray, List.getElem?_cons_succ, List.getElem?_cons_zero]; rfl) (by kernel_rfl) (by kernel_rfl) (by kernel_rfl) (by exact fun _ _ _ h => h) (Or.inl ⟨by rfl, fun W hSW => yields_load_row _ _ rfl _ _ _ rfl (rlA W hSW) huA rfl hzA⟩) hOn ?_
        try simp only [Act.put, List.setIfInBounds_toArray, List.set_cons_zero, List.set_cons_succ]
        refine wpAnyH_take (i := 5) (v := Value.agg _) (by simp only [List.getElem?_toArray, List.getElem?_cons_succ, List.getElem?_cons_zero]; rfl) (by kernel_rfl) (by kernel_rfl) (by kernel_rfl) (by exact fun _ _ _ h => h) (Or.inl ⟨by rfl, fun W hSW => yields_load_row _ _ rfl _ _ _ rfl (rlB W hSW) huB rfl hzB⟩) hOn ?_
        try simp only [Act.put, List.setIfInBounds_toArray, List.set_cons_zero, List.set_cons_succ]
        refine wpAnyH_ready (rs := [4]) (by kernel_rfl) (by simp) ?_
        refine AllReadyH.cons (by simp only [List.getElem?_toArray, List.getElem?_cons_succ, List.getElem?_cons_zero]; rfl) (fun Kz hKz => ?_) AllReadyH.nil
        go_simp
        (with_reducible refine (of34_any (.agg E) m' _ (hmE.out.below hOn (Nat.le_refl _)) l3.out l4.out).mono ?_)
        rintro e wa ⟨va, va', rfl, hr5, hr6, hnew⟩
        have hS := Grown.trans hOn hnew
        have hS1 := Lib.hid (argM_of hr5 hr6)
        clear hr5 hr6
        focus (go_wp2_with fail)
        refine hKz.out _ _ (by first | exact hS | exact Below.trans hOn (Below.mono hnew (Below.size hOn))) (fun hNext => ?_)
        clear hKz Kz hOn
        have hOn := hNext
        clear hNext
        try clear hnew
        try clear hS
        try simp only [Act.put, List.setIfInBounds_toArray, List.set_cons_zero, List.set_cons_succ]
        refine wpAnyH_ready (rs := [6]) (by kernel_rfl) (by simp) ?_
        refine AllReadyH.cons (by simp only [List.getElem?_toArray, List.getElem?_cons_succ, List.getElem?_cons_zero]; rfl) (fun Kz hKz => ?_) AllReadyH.nil
        go_simp
        (with_reducible refine (same34_any _ _ m' m' _ hS1.out (hmF.out.below hOn (Nat.le_refl _)) l3.out l4.out).mono ?_)
        rintro e wc ⟨rfl, hnew⟩
        have hS := Grown.trans hOn hnew
        rw [hs2.out]
        focus (go_wp2_with fail)
        refine hKz.out _ _ (by first | exact hS | exact Below.trans hOn (Below.mono hnew (Below.size hOn))) (fun hNext => ?_)
        clear hKz Kz hOn
        have hOn := hNext
        clear hNext
        try clear hnew
        try clear hS
        try simp only [Act.put, List.setIfInBounds_toArray, List.set_cons_zero, List.set_cons_succ]
        refine wpAnyH_take (i := 7) (v := ?_) (by simp only [List.getElem?_toArray, List.getElem?_cons_succ, List.getElem?_cons_zero]; rfl) (by kernel_rfl) (by kernel_rfl) (by kernel_rfl) (by exact fun _ _ _ h => h) (Or.inl ⟨by rfl, ?_⟩) hOn ?_
        rotate_left
        focus (intro W hSW; go_simp; try with_reducible rfl)
        try simp only [Act.put, List.setIfInBounds_toArray, List.set_cons_zero, List.set_cons_succ]
        refine wpAnyH_take (i := 8) (v := ?_) (by simp only [List.getElem?_toArray, List.getElem?_cons_succ, List.getElem?_cons_zero]; rfl) (by kernel_rfl) (by kernel_rfl) (by kernel_rfl) (by exact fun _ _ _ h => h) (Or.inl ⟨by rfl, ?_⟩) hOn ?_
        rotate_left
        focus (intro W hSW; go_simp; try with_reducible rfl)
        try simp only [Act.put, List.setIfInBounds_toArray, List.set_cons_zero, List.set_cons_succ]
        refine wpAnyH_take (i := 9) (v := ?_) (by simp only [List.getElem?_toArray, List.getElem?_cons_succ, List.getElem?_cons_zero]; rfl) (by kernel_rfl) (by kernel_rfl) (by kernel_rfl) (by exact fun _ _ _ h => h) (Or.inl ⟨by rfl, ?_⟩) hOn ?_
        rotate_left
        focus (intro W hSW; go_simp; try with_reducible rfl)
        try simp only [Act.put, List.setIfInBounds_toArray, List.set_cons_zero, List.set_cons_succ]
        refine wpAnyH_take (i := 10) (v := Value.agg _) (by simp only [List.getElem?_toArray, List.getElem?_cons_succ, List.getElem?_cons_zero]; rfl) (by kernel_rfl) (by kernel_rfl) (by kernel_rfl) (by exact fun _ _ _ h => h) (Or.inl ⟨by rfl, fun W hSW => yields_load_row _ _ rfl _ _ _ rfl (rlC W hSW) huC rfl hzC⟩) hOn ?_
        try simp only [Act.put, List.setIfInBounds_toArray, List.set_cons_zero, List.set_cons_succ]
        refine wpAnyH_take (i := 12) (v := Value.agg _) (by simp only [List.getElem?_toArray, List.getElem?_cons_succ, List.getElem?_cons_zero]; rfl) (by kernel_rfl) (by kernel_rfl) (by kernel_rfl) (by exact fun _ _ _ h => h) (Or.inl ⟨by rfl, fun W hSW => yields_load_row _ _ rfl _ _ _ rfl (rlD W hSW) huD rfl hzD⟩) hOn ?_
        try simp only [Act.put, List.setIfInBounds_toArray, List.set_cons_zero, List.set_cons_succ]
        refine wpAnyH_ready (rs := [11]) (by kernel_rfl) (by simp) ?_
        refine AllReadyH.cons (by simp only [List.getElem?_toArray, List.getElem?_cons_succ, List.getElem?_cons_zero]; rfl) (fun Kz hKz => ?_) AllReadyH.nil
        go_simp
        (with_reducible refine (of34_any (.agg C) m _ (hmC.out.below hOn (Nat.le_refl _)) l1.out l2.out).mono ?_)
        rintro e wb ⟨vb, vb', rfl, hr5, hr6, hnew⟩
        have hS := Grown.trans hOn hnew
        have hS2 := Lib.hid (argM_of hr5 hr6)
        clear hr5 hr6
        focus (go_wp2_with fail)
        refine hKz.out _ _ (by first | exact hS | exact Below.trans hOn (Below.mono hnew (Below.size hOn))) (fun hNext => ?_)
        clear hKz Kz hOn
        have hOn := hNext
        clear hNext
        try clear hnew
        try clear hS
        try simp only [Act.put, List.setIfInBounds_toArray, List.set_cons_zero, List.set_cons_succ]
        refine wpAnyH_ready (rs := [13]) (by kernel_rfl) (by simp) ?_
        refine AllReadyH.cons (by simp only [List.getElem?_toArray, List.getElem?_cons_succ, List.getElem?_cons_zero]; rfl) (fun Kz hKz => ?_) AllReadyH.nil
        go_simp
        (with_reducible refine (same34_any _ _ m m _ hS2.out (hmD.out.below hOn (Nat.le_refl _)) l1.out l2.out).mono ?_)
        rintro e wc ⟨rfl, hnew⟩
        have hS := Grown.trans hOn hnew
        rw [hs1.out]
        focus (go_wp2_with fail)
        refine hKz.out _ _ (by first | exact hS | exact Below.trans hOn (Below.mono hnew (Below.size hOn))) (fun hNext => ?_)
        clear hKz Kz hOn
        have hOn := hNext
        clear hNext
        try clear hnew
        try clear hS
        try simp only [Act.put, List.setIfInBounds_toArray, List.set_cons_zero, List.set_cons_succ]
        refine wpAnyH_take (i := 14) (v := ?_) (by simp only [List.getElem?_toArray, List.getElem?_cons_succ, List.getElem?_cons_zero]; rfl) (by kernel_rfl) (by kernel_rfl) (by kernel_rfl) (by exact fun _ _ _ h => h) (Or.inl ⟨by rfl, ?_⟩) hOn ?_
        rotate_left
        focus (intro W hSW; go_simp; try with_reducible rfl)
        try simp only [Act.put, List.setIfInBounds_toArray, List.set_cons_zero, List.set_cons_succ]
        refine wpAnyH_take (i := 15) (v := ?_) (by simp only [List.getElem?_toArray, List.getElem?_cons_succ, List.getElem?_cons_zero]; rfl) (by kernel_rfl) (by kernel_rfl) (by kernel_rfl) (by exact fun _ _ _ h => h) (Or.inl ⟨by rfl, ?_⟩) hOn ?_
        rotate_left
        focus (intro W hSW; go_simp; try with_reducible rfl)
        try simp only [Act.put, List.setIfInBounds_toArray, List.set_cons_zero, List.set_cons_succ]
        refine wpAnyH_take (i := 16) (v := ?_) (by simp only [List.getElem?_toArray, List.getElem?_cons_succ, List.getElem?_cons_zero]; rfl) (by kernel_rfl) (by kernel_rfl) (by kernel_rfl) (by exact fun _ _ _ h => h) (Or.inl ⟨by rfl, ?_⟩) hOn ?_
        rotate_left
        focus (intro W hSW; go_simp; try with_reducible rfl)
        try simp only [Act.put, List.setIfInBounds_toArray, List.set_cons_zero, List.set_cons_succ]
        refine wpAnyH_take (i := 17) (v := Value.agg _) (by simp only [List.getElem?_toArray, List.getElem?_cons_succ, List.getElem?_cons_zero]; rfl) (by kernel_rfl) (by kernel_rfl) (by kernel_rfl) (by exact fun _ _ _ h => h) (Or.inl ⟨by rfl, fun W hSW => yields_load_row _ _ rfl _ _ _ rfl (rlC W hSW) huC rfl hzC⟩) hOn ?_
        try simp only [Act.put, List.setIfInBounds_toArray, List.set_cons_zero, List.set_cons_succ]
        refine wpAnyH_take (i := 18) (v := Value.agg _) (by simp only [List.getElem?_toArray, List.getElem?_cons_succ, List.getElem?_cons_zero]; rfl) (by kernel_rfl) (by kernel_rfl) (by kernel_rfl) (by exact fun _ _ _ h => h) (Or.inl ⟨by rfl, fun W hSW => yields_load_row _ _ rfl _ _ _ rfl (rlA W hSW) huA rfl hzA⟩) hOn ?_
        try simp only [Act.put, List.setIfInBounds_toArray, List.set_cons_zero, List.set_cons_succ]
        refine wpAnyH_ready (rs := [19]) (by kernel_rfl) (by simp) ?_
        refine AllReadyH.cons (by simp only [List.getElem?_toArray, List.getElem?_cons_succ, List.getElem?_cons_zero]; rfl) (fun Kz hKz => ?_) AllReadyH.nil
        go_simp
        (with_reducible refine (grows_any _ _ m m' _ (hmC.out.below hOn (Nat.le_refl _)) (hmE.out.below hOn (Nat.le_refl _))).mono ?_)
        rintro e wd ⟨rfl, hnew⟩
        have hS := Grown.trans hOn hnew
        rw [hgr2.out]
        focus (go_wp2_with fail)
        refine hKz.out _ _ (by first | exact hS | exact Below.trans hOn (Below.mono hnew (Below.size hOn))) (fun hNext => ?_)
        clear hKz Kz hOn
        have hOn := hNext
        clear hNext
        try clear hnew
        try clear hS
        try simp only [Act.put, List.setIfInBounds_toArray, List.set_cons_zero, List.set_cons_succ]
        refine wpAnyH_take (i := 20) (v := ?_) (by simp only [List.getElem?_toArray, List.getElem?_cons_succ, List.getElem?_cons_zero]; rfl) (by kernel_rfl) (by kernel_rfl) (by kernel_rfl) (by exact fun _ _ _ h => h) (Or.inl ⟨by rfl, ?_⟩) hOn ?_
        rotate_left
        focus (intro W hSW; go_simp; try with_reducible rfl)
        try simp only [Act.put, List.setIfInBounds_toArray, List.set_cons_zero, List.set_cons_succ]
        refine wpAnyH_take (i := 21) (v := ?_) (by simp only [List.getElem?_toArray, List.getElem?_cons_succ, List.getElem?_cons_zero]; rfl) (by kernel_rfl) (by kernel_rfl) (by kernel_rfl) (by exact fun _ _ _ h => h) (Or.inl ⟨by rfl, ?_⟩) hOn ?_
        rotate_left
        focus (intro W hSW; go_simp; try with_reducible rfl)
        try simp only [Act.put, List.setIfInBounds_toArray, List.set_cons_zero, List.set_cons_succ]
        refine wpAnyH_take (i := 22) (v := ?_) (by simp only [List.getElem?_toArray, List.getElem?_cons_succ, List.getElem?_cons_zero]; rfl) (by kernel_rfl) (by kernel_rfl) (by kernel_rfl) (by exact fun _ _ _ h => h) (Or.inl ⟨by rfl, ?_⟩) hOn ?_
        rotate_left
        focus (intro W hSW; go_simp; try with_reducible rfl)
        try simp only [Act.put, List.setIfInBounds_toArray, List.set_cons_zero, List.set_cons_succ]
        refine wpAnyH_take (i := 23) (v := Value.agg _) (by simp only [List.getElem?_toArray, List.getElem?_cons_succ, List.getElem?_cons_zero]; rfl) (by kernel_rfl) (by kernel_rfl) (by kernel_rfl) (by exact fun _ _ _ h => h) (Or.inl ⟨by rfl, fun W hSW => yields_load_row _ _ rfl _ _ _ rfl (rlC W hSW) huC rfl hzC⟩) hOn ?_
        try simp only [Act.put, List.setIfInBounds_toArray, List.set_cons_zero, List.set_cons_succ]
        refine wpAnyH_take (i := 24) (v := Value.agg _) (by simp only [List.getElem?_toArray, List.getElem?_cons_succ, List.getElem?_cons_zero]; rfl) (by kernel_rfl) (by kernel_rfl) (by kernel_rfl) (by exact fun _ _ _ h => h) (Or.inl ⟨by rfl, fun W hSW => yields_load_row _ _ rfl _ _ _ rfl (rlA W hSW) huA rfl hzA⟩) hOn ?_
        try simp only [Act.put, List.setIfInBounds_toArray, List.set_cons_zero, List.set_cons_succ]
        refine wpAnyH_take (i := 26) (v := Value.agg _) (by simp only [List.getElem?_toArray, List.getElem?_cons_succ, List.getElem?_cons_zero]; rfl) (by kernel_rfl) (by kernel_rfl) (by kernel_rfl) (by exact fun _ _ _ h => h) (Or.inl ⟨by rfl, fun W hSW => yields_load_row _ _ rfl _ _ _ rfl (rlD W hSW) huD rfl hzD⟩) hOn ?_
        try simp only [Act.put, List.setIfInBounds_toArray, List.set_cons_zero, List.set_cons_succ]
        refine wpAnyH_take (i := 27) (v := Value.agg _) (by simp only [List.getElem?_toArray, List.getElem?_cons_succ, List.getElem?_cons_zero]; rfl) (by kernel_rfl) (by kernel_rfl) (by kernel_rfl) (by exact fun _ _ _ h => h) (Or.inl ⟨by rfl, fun W hSW => yields_load_row _ _ rfl _ _ _ rfl (rlB W hSW) huB rfl hzB⟩) hOn ?_
        try simp only [Act.put, List.setIfInBounds_toArray, List.set_cons_zero, List.set_cons_succ]
        refine wpAnyH_ready (rs := [25]) (by kernel_rfl) (by simp) ?_
        refine AllReadyH.cons (by simp only [List.getElem?_toArray, List.getElem?_cons_succ, List.getElem?_cons_zero]; rfl) (fun Kz hKz => ?_) AllReadyH.nil
        go_simp
        (with_reducible refine (sameM_any _ _ m m' _ (hmC.out.below hOn (Nat.le_refl _)) (hmE.out.below hOn (Nat.le_refl _)) l1.out l2.out).mono ?_)
        rintro e we ⟨rfl, hnew⟩
        have hS := Grown.trans hOn hnew
        rw [← hg.out]
        focus (go_wp2_with fail)
        refine hKz.out _ _ (by first | exact hS | exact Below.trans hOn (Below.mono hnew (Below.size hOn))) (fun hNext => ?_)
        clear hKz Kz hOn
        have hOn := hNext
        clear hNext
        try clear hnew
        try clear hS
        try simp only [Act.put, List.setIfInBounds_toArray, List.set_cons_zero, List.set_cons_succ]
        refine wpAnyH_ready (rs := [28]) (by kernel_rfl) (by simp) ?_
        refine AllReadyH.cons (by simp only [List.getElem?_toArray, List.getElem?_cons_succ, List.getElem?_cons_zero]; rfl) (fun Kz hKz => ?_) AllReadyH.nil
        go_simp
        (with_reducible refine (same34_any _ _ m m' _ (hmD.out.below hOn (Nat.le_refl _)) (hmF.out.below hOn (Nat.le_refl _)) l1.out l2.out).mono ?_)
        rintro e wc ⟨rfl, hnew⟩
        have hS := Grown.trans hOn hnew
        rw [← hg.out]
        focus (go_wp2_with fail)
        refine hKz.out _ _ (by first | exact hS | exact Below.trans hOn (Below.mono hnew (Below.size hOn))) (fun hNext => ?_)
        clear hKz Kz hOn
        have hOn := hNext
        clear hNext
        try clear hnew
        try clear hS
        try simp only [Act.put, List.setIfInBounds_toArray, List.set_cons_zero, List.set_cons_succ]
        refine wpAnyH_take (i := 29) (v := ?_) (by simp only [List.getElem?_toArray, List.getElem?_cons_succ, List.getElem?_cons_zero]; rfl) (by kernel_rfl) (by kernel_rfl) (by kernel_rfl) (by exact fun _ _ _ h => h) (Or.inl ⟨by rfl, ?_⟩) hOn ?_
        rotate_left
        focus (intro W hSW; go_simp; try with_reducible rfl)
        try simp only [Act.put, List.setIfInBounds_toArray, List.set_cons_zero, List.set_cons_succ]
        refine wpAnyH_take (i := 30) (v := ?_) (by simp only [List.getElem?_toArray, List.getElem?_cons_succ, List.getElem?_cons_zero]; rfl) (by kernel_rfl) (by kernel_rfl) (by kernel_rfl) (by exact fun _ _ _ h => h) (Or.inl ⟨by rfl, ?_⟩) hOn ?_
        rotate_left
        focus (intro W hSW; go_simp; try with_reducible rfl)
        try simp only [Act.put, List.setIfInBounds_toArray, List.set_cons_zero, List.set_cons_succ]
        refine wpAnyH_done (by kernel_rfl) ?_ _
        all_goals
          go_wp2_with fail
          go_meet
          exact ⟨rfl, hOn⟩
      case rest =>
        obtain ⟨rfl, hgw⟩ := hcut
        generalize wc = wx at *
        have aS2 := Lib.hid ((hgw.block _ (block_lt aS.out)).trans aS.out)
        have aR2 := Lib.hid ((hgw.block _ (block_lt aR.out)).trans aR.out)
        have a92 := Lib.hid ((hgw.block _ (block_lt a9.out)).trans a9.out)
        have b102 := Lib.hid ((hgw.block _ (block_lt b10.out)).trans b10.out)
        have b112 := Lib.hid ((hgw.block _ (block_lt b11.out)).trans b11.out)
        have hmC2 := Lib.hid (hmC.out.below hgw (Nat.le_refl _))
        have hmE2 := Lib.hid (hmE.out.below hgw (Nat.le_refl _))
        have hmF2 := Lib.hid (hmF.out.below hgw (Nat.le_refl _))
        have hBx := Lib.hid (hB9.out.trans (hgw.mono hsz9))
        have hszx := hBx.out.size
        have hb6l := Lib.hid (show bS + 2 ≤ b6 by have := hbl6.out; omega)
        clear hgw rlA huA hzA rlB huB hzB rlC huC hzC rlD huD hzD hd0 aS aR a9 b10 b11 hmC hmD hmE hmF hB9 hsz9 hgg hs1 hs2
        have kb9 := cell_of_block a92.out 0
        replace kb9 : wx.cell? ⟨b9, 0, none⟩ = some (.slice ca m.ns.length cc) := by rw [kb9, hCl.out]; rfl
        have kb6 := cell_of_block b102.out 0
        replace kb6 : wx.cell? ⟨b6, 0, none⟩ = some (.slice ea1 m'.ns.length ec) := by rw [kb6, hE.out]; rfl
        have hsc := Lib.hid (sameM_any _ _ m m' wx hmC2.out hmE2.out l1.out l2.out)
        have hgr := Lib.hid (fun W (h : Grown wx W) => grows_any _ _ m' m W (hmE2.out.below h (Nat.le_refl _)) (hmC2.out.below h (Nat.le_refl _)))
        rw [← hg.out] at hsc
        have iCl : (Tryd.prog.info? 28).map (·.size) = some C.toList.length := by rw [Array.length_toList]; exact iC
        have iEl : (Tryd.prog.info? 28).map (·.size) = some E.toList.length := by rw [Array.length_toList]; exact iE
        go_upto_region 13 with fail
        go_cut [86] from 69 to 86 (fun s86 wy => s86 = .bool false ∧ Grown wx wy)
        case first =>
          clear hback
          cases g with
          | true =>
            go_wp2_with (first
              | ((with_reducible show wpList _ _ _ (Oper.mk _ (Op.load 28 (.tmp 9)) _ _ _ _ :: _) _ _); refine wpList_load_row rfl 28 (.tmp 9) rfl b9 C _ rfl a92 huM rfl iC ?_; simp only [Act.put, List.setIfInBounds_toArray, List.set_cons_zero, List.set_cons_succ])
              | ((with_reducible show wpList _ _ _ (Oper.mk _ (Op.load 28 (.tmp 10)) _ _ _ _ :: _) _ _); refine wpList_load_row rfl 28 (.tmp 10) rfl b6 E _ rfl b102 huM rfl iE ?_; simp only [Act.put, List.setIfInBounds_toArray, List.set_cons_zero, List.set_cons_succ]))
            with_reducible refine hsc.out.mono ?_
            rintro e wy ⟨rfl, hby⟩
            replace hby := Lib.hid hby
            clear kb9 kb6
            go_wp2_with fail
            go_meet
            exact ⟨rfl, hby.out⟩
          | false =>
            by_cases hlen : m.ns.length < m'.ns.length
            · have hln1 : decide (m.ns.length < m'.ns.length) = true := decide_eq_true hlen
              have hgf := Lib.hid (show growsM m' m = false from growsM_not (by omega))
              go_wp2_with (first
                | ((with_reducible show wpList _ _ _ (Oper.mk _ (Op.load 28 (.tmp 9)) _ _ _ _ :: _) _ _); refine wpList_load_row rfl 28 (.tmp 9) rfl b9 C _ rfl a92 huM rfl iC ?_; simp only [Act.put, List.setIfInBounds_toArray, List.set_cons_zero, List.set_cons_succ])
                | ((with_reducible show wpList _ _ _ (Oper.mk _ (Op.load 28 (.tmp 10)) _ _ _ _ :: _) _ _); refine wpList_load_row rfl 28 (.tmp 10) rfl b6 E _ rfl b102 huM rfl iE ?_; simp only [Act.put, List.setIfInBounds_toArray, List.set_cons_zero, List.set_cons_succ]))
              with_reducible refine hsc.out.mono ?_
              rintro e wy ⟨rfl, hby⟩
              replace kb9 := (hby.cell (World.block_lt_of_cell? wx _ kb9)).trans kb9
              replace kb6 := (hby.cell (World.block_lt_of_cell? wx _ kb6)).trans kb6
              have rr9 := Lib.hid (rangeAt_of_cells (cs := C.toList) (t := 28) (z := (0, 0)) ((hby.block _ (block_lt a92.out)).trans a92.out))
              have rr6 := Lib.hid (rangeAt_of_cells (cs := E.toList) (t := 28) (z := (0, 0)) ((hby.block _ (block_lt b102.out)).trans b102.out))
              have hgc := Lib.hid (hgr.out wy hby)
              rw [hgf.out] at hgc
              replace hby := Lib.hid hby
              go_wp2_with (first
                | ((with_reducible show wpList _ _ _ (Oper.mk _ (Op.load 28 (.tmp 10)) _ _ _ _ :: _) _ _); refine wpList_load_midG (by kernel_rfl) 28 (.tmp 10) rfl b6 0 rfl E.toList _ rr6.out huM rfl iEl E (Lib.hid (by simp)) ?_; simp only [Act.put, List.setIfInBounds_toArray, List.set_cons_zero, List.set_cons_succ])
                | ((with_reducible show wpList _ _ _ (Oper.mk _ (Op.load 28 (.tmp 9)) _ _ _ _ :: _) _ _); refine wpList_load_midG (by kernel_rfl) 28 (.tmp 9) rfl b9 0 rfl C.toList _ rr9.out huM rfl iCl C (Lib.hid (by simp)) ?_; simp only [Act.put, List.setIfInBounds_toArray, List.set_cons_zero, List.set_cons_succ]))
              with_reducible refine hgc.out.mono ?_
              rintro e wz ⟨rfl, hbz⟩
              have hbz2 := Lib.hid (hby.out.trans (hbz.mono hby.out.size))
              clear hbz kb9 kb6
              go_wp2_with fail
              go_meet
              exact ⟨rfl, hbz2.out⟩
            · have hln1 : decide (m.ns.length < m'.ns.length) = false := decide_eq_false hlen
              go_wp2_with (first
                | ((with_reducible show wpList _ _ _ (Oper.mk _ (Op.load 28 (.tmp 9)) _ _ _ _ :: _) _ _); refine wpList_load_row rfl 28 (.tmp 9) rfl b9 C _ rfl a92 huM rfl iC ?_; simp only [Act.put, List.setIfInBounds_toArray, List.set_cons_zero, List.set_cons_succ])
                | ((with_reducible show wpList _ _ _ (Oper.mk _ (Op.load 28 (.tmp 10)) _ _ _ _ :: _) _ _); refine wpList_load_row rfl 28 (.tmp 10) rfl b6 E _ rfl b102 huM rfl iE ?_; simp only [Act.put, List.setIfInBounds_toArray, List.set_cons_zero, List.set_cons_succ]))
              with_reducible refine hsc.out.mono ?_
              rintro e wy ⟨rfl, hby⟩
              replace kb9 := (hby.cell (World.block_lt_of_cell? wx _ kb9)).trans kb9
              replace kb6 := (hby.cell (World.block_lt_of_cell? wx _ kb6)).trans kb6
              replace hby := Lib.hid hby
              go_wp2_with fail
              go_meet
              exact ⟨rfl, hby.out⟩
        case rest =>
        obtain ⟨rfl, hgw⟩ := hcut
        generalize wc = wy at *
        replace aS2 := Lib.hid ((hgw.block _ (block_lt aS2.out)).trans aS2.out)
        replace aR2 := Lib.hid ((hgw.block _ (block_lt aR2.out)).trans aR2.out)
        replace b102 := Lib.hid ((hgw.block _ (block_lt b102.out)).trans b102.out)
        replace b112 := Lib.hid ((hgw.block _ (block_lt b112.out)).trans b112.out)
        replace hmE2 := Lib.hid (hmE2.out.below hgw (Nat.le_refl _))
        replace hmF2 := Lib.hid (hmF2.out.below hgw (Nat.le_refl _))
        have hBy := Lib.hid (hBx.out.trans (hgw.mono hszx))
        have hszy := hBy.out.size
        clear hgw kb9 kb6 hsc hgr a92 hmC2 hBx hszx hg
        go_wp2_with fail
        have hgr := Grown.drew (Grown.refl wy)
        have hd0 : Hid (Only (fun k => k = bS ∨ k = bS + 1) wy wy.drew) := Lib.hid (Only.ofBelow hgr)
        have hEy : Hid (ArgM wy.drew (.agg E) m') := Lib.hid (hmE2.out.below hgr (Nat.le_refl _))
        have hFy : Hid (ArgM wy.drew (.agg F) m') := Lib.hid (hmF2.out.below hgr (Nat.le_refl _))
        rw [hCl.out] at aS2
        rw [hDl.out] at aR2
        have aSd : Hid (wy.drew.heap[bS]? = some (.cells #[.slice ca m.ns.length cc, .slice ca' m.vs.length cc'] 28 (0, 0))) := Lib.hid ((hgr.block _ (block_lt aS2.out)).trans aS2.out)
        have aRd : Hid (wy.drew.heap[bS + 1]? = some (.cells #[.slice da m.ns.length dc, .slice da' m.vs.length dc'] 32 (0, 0))) := Lib.hid ((hgr.block _ (block_lt aR2.out)).trans aR2.out)
        have sE2 : (#[.slice ca m.ns.length cc, .slice ca' m.vs.length cc'] : Array Value).size = E.size := by rw [hE.out]; rfl
        have sF2 : (#[.slice da m.ns.length dc, .slice da' m.vs.length dc'] : Array Value).size = F.size := by rw [hF.out]; rfl
        have rlA : ∀ W : World, Only (fun k => k = bS ∨ k = bS + 1) wy W → W.heap[b6]? = some (.cells E 28 (0, 0)) := fun W hW => hW.heap b102.out (by have := hb6l.out; omega)
        have huA := huM
        have hzA := iE
        have rlB : ∀ W : World, Only (fun k => k = bS ∨ k = bS + 1) wy W → W.heap[b6 + 1]? = some (.cells F 32 (0, 0)) := fun W hW => hW.heap b112.out (by have := hb6l.out; omega)
        have huB := huR
        have hzB := iF
        clear hgr
        go_cut [] from 87 to 88 (fun wz => wz.heap[bS]? = some (.cells E 28 (0, 0)) ∧ wz.heap[bS + 1]? = some (.cells F 32 (0, 0)) ∧ ArgM wz (.agg E) m' ∧ ArgM wz (.agg F) m' ∧ Below w.heap.size w wz)
        case first =>
          clear hback
          refine wp_region_held_drew (S := (Only (fun k => k = bS ∨ k = bS + 1) wy)) (by kernel_rfl) hd0.out (fun hOn => ?_)
          generalize World.drew wy = wd at *
          refine wpAnyH_take (i := 0) (v := Value.agg _) (by simp only [List.getElem?_toArray, List.getElem?_cons_zero]; rfl) (by kernel_rfl) (by kernel_rfl) (by kernel_rfl) (by exact fun _ _ _ h => h) (Or.inl ⟨by rfl, fun W hSW => yields_load_row _ _ rfl _ _ _ rfl (rlA W hSW) huA rfl hzA⟩) hOn ?_
          try simp only [Act.put, List.setIfInBounds_toArray, List.set_cons_zero, List.set_cons_succ]
          refine wpAnyH_take (i := 1) (v := Value.agg _) (by simp only [List.getElem?_toArray, List.getElem?_cons_succ, List.getElem?_cons_zero]; rfl) (by kernel_rfl) (by kernel_rfl) (by kernel_rfl) (by exact fun _ _ _ h => h) (Or.inl ⟨by rfl, fun W hSW => yields_load_row _ _ rfl _ _ _ rfl (rlB W hSW) huB rfl hzB⟩) hOn ?_
          try simp only [Act.put, List.setIfInBounds_toArray, List.set_cons_zero, List.set_cons_succ]
          refine wpAnyH_ready (rs := [2]) (by kernel_rfl) (by simp) ?_
          refine AllReadyH.cons (by simp only [List.getElem?_toArray, List.getElem?_cons_succ, List.getElem?_cons_zero]; rfl) (fun Kz hKz => ?_) AllReadyH.nil
          rw [if_pos (by rfl)]
          (with_reducible refine wp_store_rowK 28 (.tmp 5) (.tmp 87) rfl bS _ E rfl rfl aSd iE sE2 oE ?_)
          intro w8 hU8
          have hS : Only (fun k => k = bS ∨ k = bS + 1) wy w8 := Only.trans hOn (Only.ofUpd (D := fun k => k = bS ∨ k = bS + 1) hU8.out (.inl rfl)) (fun k _ h => h)
          have aSf := Lib.hid hU8.out.here
          (try replace aRd := Lib.hid ((hU8.out.block _ (by omega)).trans aRd.out))
          (try replace aRf := Lib.hid ((hU8.out.block _ (by omega)).trans aRf.out))
          replace hEy := Lib.hid (hEy.out.updB aSd.out hU8.out)
          replace hFy := Lib.hid (hFy.out.updB aSd.out hU8.out)
          refine hKz.out _ _ (by first | exact hS | exact Below.trans hOn (Below.mono hnew (Below.size hOn))) (fun hNext => ?_)
          clear hKz Kz hOn
          have hOn := hNext
          clear hNext
          try clear hnew
          try clear hS
          try simp only [Act.put]
          refine wpAnyH_ready (rs := [3]) (by kernel_rfl) (by simp) ?_
          refine AllReadyH.cons (by simp only [List.getElem?_toArray, List.getElem?_cons_succ, List.getElem?_cons_zero]; rfl) (fun Kz hKz => ?_) AllReadyH.nil
          rw [if_pos (by rfl)]
          (with_reducible refine wp_store_rowK 32 (.tmp 6) (.tmp 88) rfl (bS + 1) _ F rfl rfl aRd iF sF2 oF ?_)
          intro w9b hU9
          have hS : Only (fun k => k = bS ∨ k = bS + 1) wy w9b := Only.trans hOn (Only.ofUpd (D := fun k => k = bS ∨ k = bS + 1) hU9.out (.inr rfl)) (fun k _ h => h)
          have aRf := Lib.hid hU9.out.here
          (try replace aSd := Lib.hid ((hU9.out.block _ (by omega)).trans aSd.out))
          (try replace aSf := Lib.hid ((hU9.out.block _ (by omega)).trans aSf.out))
          replace hEy := Lib.hid (hEy.out.updB aRd.out hU9.out)
          replace hFy := Lib.hid (hFy.out.updB aRd.out hU9.out)
          refine hKz.out _ _ (by first | exact hS | exact Below.trans hOn (Below.mono hnew (Below.size hOn))) (fun hNext => ?_)
          clear hKz Kz hOn
          have hOn := hNext
          clear hNext
          try clear hnew
          try clear hS
          try simp only [Act.put]
          refine wpAnyH_done (by kernel_rfl) ?_ _
          all_goals
            go_wp2_with fail
            go_meet
            exact ⟨aSf.out, aRf.out, hEy.out, hFy.out, hBy.out.trans (hOn.below (B := w.heap.size) hszy (fun k h => by omega))⟩
        case rest =>
        obtain ⟨aS3, aR3, hmE3, hmF3, hBz⟩ := hcut
        generalize wc = wz at *
        clear rlA huA hzA rlB huB hzB hd0 hEy hFy aSd aRd aS2 aR2 b102 b112 hmE2 hmF2 hBy hszy sE2 sF2
        have hszz := hBz.size
        replace aS3 := Lib.hid aS3
        replace aR3 := Lib.hid aR3
        replace hmE3 := Lib.hid hmE3
        replace hmF3 := Lib.hid hmF3
        replace hBz := Lib.hid hBz
        have hpn := Lib.hid hI2.out.pn
        obtain ⟨L, hLe⟩ : ∃ L, L = mLeft m' q := ⟨_, rfl⟩
        have hll : (L != L) = false := by simp
        replace hLe := Lib.hid hLe
        go_wp2_with fail
        have rlA : ∀ W : World, Grown wz W → W.heap[bS]? = some (.cells E 28 (0, 0)) := fun W hW => (hW.block _ (block_lt aS3.out)).trans aS3.out
        have huA := huM
        have hzA := iE
        have rlB : ∀ W : World, Grown wz W → W.heap[bS + 1]? = some (.cells F 32 (0, 0)) := fun W hW => (hW.block _ (block_lt aR3.out)).trans aR3.out
        have huB := huR
        have hzB := iF
        have hd0 : Hid (Grown wz wz.drew) := Lib.hid (Grown.drew (Grown.refl wz))
        go_cut [95] from 89 to 95 (fun s95 wv => s95 = .bool false ∧ Grown wz wv)
        case first =>
          clear hback
          refine wp_region_held_drew (S := (Grown wz)) (by kernel_rfl) hd0.out (fun hOn => ?_)
          generalize World.drew wz = wd at *
          refine wpAnyH_take (i := 0) (v := Value.agg _) (by simp only [List.getElem?_toArray, List.getElem?_cons_zero]; rfl) (by kernel_rfl) (by kernel_rfl) (by kernel_rfl) (by exact fun _ _ _ h => h) (Or.inl ⟨by rfl, fun W hSW => yields_load_row _ _ rfl _ _ _ rfl (rlA W hSW) huA rfl hzA⟩) hOn ?_
          try simp only [Act.put, List.setIfInBounds_toArray, List.set_cons_zero, List.set_cons_succ]
          refine wpAnyH_take (i := 1) (v := ?_) (by simp only [List.getElem?_toArray, List.getElem?_cons_succ, List.getElem?_cons_zero]; rfl) (by kernel_rfl) (by kernel_rfl) (by kernel_rfl) (by exact fun _ _ _ h => h) (Or.inl ⟨by rfl, ?_⟩) hOn ?_
          rotate_left
          focus (intro W hSW; go_simp; try with_reducible rfl)
          try simp only [Act.put, List.setIfInBounds_toArray, List.set_cons_zero, List.set_cons_succ]
          refine wpAnyH_take (i := 3) (v := Value.agg _) (by simp only [List.getElem?_toArray, List.getElem?_cons_succ, List.getElem?_cons_zero]; rfl) (by kernel_rfl) (by kernel_rfl) (by kernel_rfl) (by exact fun _ _ _ h => h) (Or.inl ⟨by rfl, fun W hSW => yields_load_row _ _ rfl _ _ _ rfl (rlB W hSW) huB rfl hzB⟩) hOn ?_
          try simp only [Act.put, List.setIfInBounds_toArray, List.set_cons_zero, List.set_cons_succ]
          refine wpAnyH_take (i := 4) (v := ?_) (by simp only [List.getElem?_toArray, List.getElem?_cons_succ, List.getElem?_cons_zero]; rfl) (by kernel_rfl) (by kernel_rfl) (by kernel_rfl) (by exact fun _ _ _ h => h) (Or.inl ⟨by rfl, ?_⟩) hOn ?_
          rotate_left
          focus (intro W hSW; go_simp; try with_reducible rfl)
          try simp only [Act.put, List.setIfInBounds_toArray, List.set_cons_zero, List.set_cons_succ]
          refine wpAnyH_ready (rs := [2]) (by kernel_rfl) (by simp) ?_
          refine AllReadyH.cons (by simp only [List.getElem?_toArray, List.getElem?_cons_succ, List.getElem?_cons_zero]; rfl) (fun Kz hKz => ?_) AllReadyH.nil
          go_simp
          (with_reducible refine (mleft_any _ m' _ (hmE3.out.below hOn (Nat.le_refl _)) l3.out l4.out q hpn.out).mono ?_)
          rintro e wa ⟨rfl, hnew⟩
          have hS := Grown.trans hOn hnew
          rw [← hLe.out]
          focus (go_wp2_with fail)
          refine hKz.out _ _ (by first | exact hS | exact Below.trans hOn (Below.mono hnew (Below.size hOn))) (fun hNext => ?_)
          clear hKz Kz hOn
          have hOn := hNext
          clear hNext
          try clear hnew
          try clear hS
          try simp only [Act.put, List.setIfInBounds_toArray, List.set_cons_zero, List.set_cons_succ]
          refine wpAnyH_ready (rs := [5]) (by kernel_rfl) (by simp) ?_
          refine AllReadyH.cons (by simp only [List.getElem?_toArray, List.getElem?_cons_succ, List.getElem?_cons_zero]; rfl) (fun Kz hKz => ?_) AllReadyH.nil
          go_simp
          (with_reducible refine (rleft_any _ m' _ (hmF3.out.below hOn (Nat.le_refl _)) l3.out l4.out q hpn.out).mono ?_)
          rintro e wa ⟨rfl, hnew⟩
          have hS := Grown.trans hOn hnew
          rw [← hLe.out]
          focus (go_wp2_with fail)
          refine hKz.out _ _ (by first | exact hS | exact Below.trans hOn (Below.mono hnew (Below.size hOn))) (fun hNext => ?_)
          clear hKz Kz hOn
          have hOn := hNext
          clear hNext
          try clear hnew
          try clear hS
          try simp only [Act.put, List.setIfInBounds_toArray, List.set_cons_zero, List.set_cons_succ]
          refine wpAnyH_take (i := 6) (v := ?_) (by simp only [List.getElem?_toArray, List.getElem?_cons_succ, List.getElem?_cons_zero]; rfl) (by kernel_rfl) (by kernel_rfl) (by kernel_rfl) (by exact fun _ _ _ h => h) (Or.inl ⟨by rfl, ?_⟩) hOn ?_
          rotate_left
          focus (intro W hSW; go_simp; try with_reducible rfl)
          try simp only [Act.put, List.setIfInBounds_toArray, List.set_cons_zero, List.set_cons_succ]
          refine wpAnyH_done (by kernel_rfl) ?_ _
          all_goals
            go_wp2_with fail
            go_meet
            exact ⟨rfl, hOn⟩
        case rest =>
        obtain ⟨rfl, hgw⟩ := hcut
        generalize wc = wL at *
        replace aS3 := Lib.hid ((hgw.block _ (block_lt aS3.out)).trans aS3.out)
        replace aR3 := Lib.hid ((hgw.block _ (block_lt aR3.out)).trans aR3.out)
        replace hmE3 := Lib.hid (hmE3.out.below hgw (Nat.le_refl _))
        replace hmF3 := Lib.hid (hmF3.out.below hgw (Nat.le_refl _))
        have hBL := Lib.hid (hBz.out.trans (hgw.mono hszz))
        have hszL := hBL.out.size
        obtain ⟨V, hV⟩ : ∃ V, V = m'.vs.length := ⟨_, rfl⟩
        have hVb : V ≤ 1000 := by rw [hV]; exact l4.out
        have hrV : Hid (RowAt Vd.list 3 wL fa' m'.vs) := Lib.hid (by
          obtain ⟨⟨a, c, a', c', e, _, _, _, r, _⟩, _, _⟩ := hmF3.out
          rw [hF.out] at e
          cases e
          exact r)
        replace hV := Lib.hid hV
        clear hgw rlA huA hzA rlB huB hzB hd0 hBz hszz hll hLe hpn
        go_wp2_with fail
        refine wp_loopF [(false, 13), (true, 4), (false, 79), (true, 30), (false, 1)] _ [] (fun U wr => ∃ v : Int, -1 ≤ v ∧ v ≤ 5 ∧ U 13 = .int .i64 v ∧ Below wL.heap.size wL wr) (fun U _ => (5 - intOf (U 13)).toNat) ?_ ?_
        · simp only [List.getD_cons_zero, List.getD_cons_succ]
          exact ⟨-1, by decide, by decide, rfl, Below.refl _ _⟩
        · intro U2 wM hrel2 KK2 hback2 l2' hl2'
          obtain ⟨v, hv0, hv5, h13, hbM⟩ := hrel2
          simp only [fillS, popSeg, cond_true, cond_false, Nat.reduceAdd, h13] at hl2'
          subst hl2'
          replace h13 := Lib.hid h13
          have aSM := Lib.hid ((hbM.block _ (block_lt aS3.out)).trans aS3.out)
          have aRM := Lib.hid ((hbM.block _ (block_lt aR3.out)).trans aR3.out)
          have hszM := hbM.size
          by_cases hv : v < 5
          · have kF1 : wM.cell? ⟨bS + 1, 1, none⟩ = some (.slice fa' V fc') := by rw [cell_of_block aRM.out, hF.out, hV.out]; rfl
            have hrM := Lib.hid (hrV.out.below hbM (Nat.le_refl _))
            have hcn := Lib.hid (fun W (h : Below wL.heap.size wL W) => mcount_any _ m' W (hmE3.out.below h (Nat.le_refl _)) l4.out q v)
            obtain ⟨res, hres⟩ : ∃ res, res = mVer m'.vs q v := ⟨_, rfl⟩
            rw [← hres] at hcn
            have hrr : ((res : Int) != (res : Int)) = false := by simp
            replace hres := Lib.hid hres
            replace hbM := Lib.hid hbM
            go_wp2_with fail
            clear kF1
            refine wp_loopF [(false, 14), (true, 1), (false, 1), (true, 1), (false, 86), (true, 17), (false, 7)] _ [] (fun U wr => ∃ (i n : Nat), i ≤ V ∧ n ≤ i ∧ U 103 = .int .i64 (i : Nat) ∧ U 14 = .int .i64 (n : Nat) ∧ n = mVer (m'.vs.take i) q v ∧ Below wM.heap.size wM wr) (fun U _ => V - (intOf (U 103)).toNat) ?_ ?_
            · simp only [List.getD_cons_zero, List.getD_cons_succ]
              exact ⟨0, 0, Nat.zero_le _, Nat.le_refl _, rfl, rfl, by simp [mVer], Below.refl _ _⟩
            · intro U3 wr hrel3 KK3 hback3 l3' hl3'
              obtain ⟨i, n, hi, hni, h103, h14, hn, hbw⟩ := hrel3
              simp only [fillS, popSeg, cond_true, cond_false, Nat.reduceAdd, h103, h14] at hl3'
              subst hl3'
              replace h103 := Lib.hid h103
              replace h14 := Lib.hid h14
              replace hn := Lib.hid hn
              by_cases hit : i < V
              · have hit2 : (i : Int) < (V : Int) := by omega
                have hiN : i < m'.vs.length := by rw [← hV.out]; exact hit
                obtain ⟨b1, o1, hab, hr1⟩ := (hrM.out.below hbw (Nat.le_refl _)) i hiN
                have hstep := Lib.hid (show mVer (m'.vs.take (i + 1)) q v = n + (if (decide ((m'.vs[i]).o = q) && decide ((m'.vs[i]).v = v)) = true then 1 else 0) by
                  unfold mVer
                  rw [List.take_succ_eq_append_getElem hiN, List.countP_append, hn.out]
                  simp [mVer, List.countP_cons])
                generalize m'.vs[i] = y at *
                obtain ⟨Y, hY⟩ : ∃ Y, Y = y.list.toArray := ⟨_, rfl⟩
                have hY3 : Y.size = 3 := by rw [hY]; rfl
                have iy : (Tryd.prog.info? 46).map (·.size) = some y.list.length := by kernel_rfl
                have iY : (Tryd.prog.info? 46).map (·.size) = some Y.size := by rw [hY3]; kernel_rfl
                have zY : (#[.int .i64 0, .int .i64 0, .int .i64 0] : Array Value).size = Y.size := by rw [hY3]; rfl
                have h1Y : Y.all (·.oneCell') = true := by rw [hY]; simp [Vd.list, Value.oneCell']
                have hY0 : Y[0]? = some (.int .i64 y.o) := by rw [hY]; rfl
                have hY2 : Y[2]? = some (.int .i64 y.v) := by rw [hY]; rfl
                have hZ := Lib.hid (heap_alloc_new wr (.cells #[.int .i64 0, .int .i64 0, .int .i64 0] 46))
                have hszr := hbw.size
                have habk : Value.slice fa' V fc' = .slice (some ⟨b1, o1, none⟩) V fc' := by rw [hab]
                subst hab
                replace hY := Lib.hid hY
                replace hY0 := Lib.hid hY0
                replace hY2 := Lib.hid hY2
                replace hr1 := Lib.hid hr1
                replace hbw := Lib.hid hbw
                clear habk
                by_cases ho : y.o = q
                · have hoe : (y.o == q) = true := by simpa using ho
                  by_cases hf : y.v = v
                  · have hfe : (y.v == v) = true := by simpa using hf
                    have hst := Lib.hid (show n + 1 = mVer (m'.vs.take (i + 1)) q v by rw [hstep.out, if_pos (by simp [ho, hf])])
                    replace ho := Lib.hid ho
                    replace hf := Lib.hid hf
                    go_wp2_with (first
                      | ((with_reducible show wpList _ _ _ (Oper.mk _ (Op.load 46 (.tmp 105)) _ _ _ _ :: _) _ _); refine wpList_load_mid rfl 46 (.tmp 105) rfl b1 (o1 + i * 3) rfl y.list _ hr1.out huV rfl iy ?_; rw [← hY.out]; simp only [Act.put, List.setIfInBounds_toArray, List.set_cons_zero, List.set_cons_succ])
                      | ((with_reducible show wpList _ _ _ (Oper.mk _ (Op.store 46 (.tmp 16) _) _ _ _ _ :: _) _ _); (refine wpList_store_row rfl 46 (.tmp 16) (.tmp 106) rfl wr.heap.size _ Y rfl rfl hZ iY zY h1Y ?_); intro w5b hU5; have hb3 : Below wr.heap.size wr w5b := (Below.alloc (Below.refl wr.heap.size wr) (Nat.le_refl _) _).trans (hU5.out.below (Nat.le_refl _)); have k0 : w5b.cell? ⟨wr.heap.size, 0, none⟩ = some (.int .i64 y.o) := (by rw [cell_of_block hU5.out.here]; exact hY0.out); have k2 : w5b.cell? ⟨wr.heap.size, 2, none⟩ = some (.int .i64 y.v) := (by rw [cell_of_block hU5.out.here]; exact hY2.out); have hb2 := Lib.hid (hbw.out.trans (hb3.mono hszr)); clear hb3 hU5; simp only [Act.put, List.setIfInBounds_toArray, List.set_cons_zero, List.set_cons_succ]))
                    refine hback3.out _ _ (by kernel_rfl) ?_ ?_
                    · simp only [List.getD_cons_zero, List.getD_cons_succ]
                      exact ⟨i + 1, n + 1, hit, by omega, by go_num, by go_num, hst.out, hb2.out⟩
                    · have h103 := h103.out
                      simp only [List.getD_cons_zero, List.getD_cons_succ, h103, intOf]
                      omega
                  · have hfe : (y.v == v) = false := by simpa using hf
                    have hst := Lib.hid (show n = mVer (m'.vs.take (i + 1)) q v by rw [hstep.out, if_neg (by simp [hf])]; rfl)
                    replace ho := Lib.hid ho
                    replace hf := Lib.hid hf
                    go_wp2_with (first
                      | ((with_reducible show wpList _ _ _ (Oper.mk _ (Op.load 46 (.tmp 105)) _ _ _ _ :: _) _ _); refine wpList_load_mid rfl 46 (.tmp 105) rfl b1 (o1 + i * 3) rfl y.list _ hr1.out huV rfl iy ?_; rw [← hY.out]; simp only [Act.put, List.setIfInBounds_toArray, List.set_cons_zero, List.set_cons_succ])
                      | ((with_reducible show wpList _ _ _ (Oper.mk _ (Op.store 46 (.tmp 16) _) _ _ _ _ :: _) _ _); (refine wpList_store_row rfl 46 (.tmp 16) (.tmp 106) rfl wr.heap.size _ Y rfl rfl hZ iY zY h1Y ?_); intro w5b hU5; have hb3 : Below wr.heap.size wr w5b := (Below.alloc (Below.refl wr.heap.size wr) (Nat.le_refl _) _).trans (hU5.out.below (Nat.le_refl _)); have k0 : w5b.cell? ⟨wr.heap.size, 0, none⟩ = some (.int .i64 y.o) := (by rw [cell_of_block hU5.out.here]; exact hY0.out); have k2 : w5b.cell? ⟨wr.heap.size, 2, none⟩ = some (.int .i64 y.v) := (by rw [cell_of_block hU5.out.here]; exact hY2.out); have hb2 := Lib.hid (hbw.out.trans (hb3.mono hszr)); clear hb3 hU5; simp only [Act.put, List.setIfInBounds_toArray, List.set_cons_zero, List.set_cons_succ]))
                    refine hback3.out _ _ (by kernel_rfl) ?_ ?_
                    · simp only [List.getD_cons_zero, List.getD_cons_succ]
                      exact ⟨i + 1, n, hit, by omega, by go_num, rfl, hst.out, hb2.out⟩
                    · have h103 := h103.out
                      simp only [List.getD_cons_zero, List.getD_cons_succ, h103, intOf]
                      omega
                · have hoe : (y.o == q) = false := by simpa using ho
                  have hst := Lib.hid (show n = mVer (m'.vs.take (i + 1)) q v by rw [hstep.out, if_neg (by simp [ho])]; rfl)
                  replace ho := Lib.hid ho
                  go_wp2_with (first
                    | ((with_reducible show wpList _ _ _ (Oper.mk _ (Op.load 46 (.tmp 105)) _ _ _ _ :: _) _ _); refine wpList_load_mid rfl 46 (.tmp 105) rfl b1 (o1 + i * 3) rfl y.list _ hr1.out huV rfl iy ?_; rw [← hY.out]; simp only [Act.put, List.setIfInBounds_toArray, List.set_cons_zero, List.set_cons_succ])
                    | ((with_reducible show wpList _ _ _ (Oper.mk _ (Op.store 46 (.tmp 16) _) _ _ _ _ :: _) _ _); (refine wpList_store_row rfl 46 (.tmp 16) (.tmp 106) rfl wr.heap.size _ Y rfl rfl hZ iY zY h1Y ?_); intro w5b hU5; have hb3 : Below wr.heap.size wr w5b := (Below.alloc (Below.refl wr.heap.size wr) (Nat.le_refl _) _).trans (hU5.out.below (Nat.le_refl _)); have k0 : w5b.cell? ⟨wr.heap.size, 0, none⟩ = some (.int .i64 y.o) := (by rw [cell_of_block hU5.out.here]; exact hY0.out); have k2 : w5b.cell? ⟨wr.heap.size, 2, none⟩ = some (.int .i64 y.v) := (by rw [cell_of_block hU5.out.here]; exact hY2.out); have hb2 := Lib.hid (hbw.out.trans (hb3.mono hszr)); clear hb3 hU5; simp only [Act.put, List.setIfInBounds_toArray, List.set_cons_zero, List.set_cons_succ]))
                  refine hback3.out _ _ (by kernel_rfl) ?_ ?_
                  · simp only [List.getD_cons_zero, List.getD_cons_succ]
                    exact ⟨i + 1, n, hit, by omega, by go_num, rfl, hst.out, hb2.out⟩
                  · have h103 := h103.out
                    simp only [List.getD_cons_zero, List.getD_cons_succ, h103, intOf]
                    omega
              · obtain rfl : V = i := by omega
                have hnr : n = res := by rw [hn.out, hres.out, hV.out, List.take_length]
                have hbLw := hbM.out.trans (hbw.mono hszM)
                have hcw := Lib.hid (hcn.out wr hbLw)
                have aSw := Lib.hid ((hbw.block _ (block_lt aSM.out)).trans aSM.out)
                replace hbLw := Lib.hid hbLw
                clear hback3 h14 hn hbw hcn
                subst hnr
                go_wp2_with ((with_reducible show wpList _ _ _ (Oper.mk _ (Op.load 28 (.tmp 5)) _ _ _ _ :: _) _ _); refine wpList_load_row rfl 28 (.tmp 5) rfl bS E _ rfl aSw huM rfl iE ?_; simp only [Act.put, List.setIfInBounds_toArray, List.set_cons_zero, List.set_cons_succ])
                with_reducible refine hcw.out.mono ?_
                clear hcw
                rintro e wN ⟨rfl, hbN⟩
                have hbLN := Lib.hid (hbLw.out.trans (hbN.mono hbLw.out.size))
                clear hbN
                go_wp2_with fail
                refine hback2.out _ _ (by kernel_rfl) ?_ ?_
                · simp only [List.getD_cons_zero, List.getD_cons_succ]
                  exact ⟨v + 1, by omega, by omega, by go_num, hbLN.out⟩
                · have h13 := h13.out
                  simp only [List.getD_cons_zero, List.getD_cons_succ, h13, intOf]
                  omega
          · obtain rfl : v = 5 := by omega
            have hBM := Lib.hid (hBL.out.trans (hbM.mono hszL))
            have hmEM := Lib.hid (hmE3.out.below hbM (Nat.le_refl _))
            have hmFM := Lib.hid (hmF3.out.below hbM (Nat.le_refl _))
            clear hback2 hbM hv h13
            go_wp2_with fail
            refine hback.out _ _ (by kernel_rfl) ?_ ?_
            · simp only [List.getD_cons_zero, List.getD_cons_succ]
              exact ⟨j + 1, m', E, F, by omega, by go_num, hBM.out, aSM.out, aRM.out, hmEM.out, hmFM.out, hI2.out⟩
            · have h25 := h25.out
              simp only [List.getD_cons_zero, List.getD_cons_succ, h25, intOf]
              omega
    · obtain rfl : N = j := by omega
      replace hbw := Lib.hid hbw
      clear hback
      go_wp2_with fail
      go_ret
      exact ⟨rfl, hbw.out⟩
end Go.Proofs.YtndgacjfkoliaaaDoor
