/- The walk over model.Grows. -/
import Derived.Test.YtndgacjfkoliaaaDoorF3PlaysSaid34
import Derived.Test.YtndgacjfkoliaaaDoorF4PlaysSaid34
namespace Go.Proofs.YtndgacjfkoliaaaDoor
open Go.RowKit

def growN (x y : Nm) : Bool := decide ({ x with k := x.k || y.k } = y)
def growV (x y : Vd) : Bool := decide ((if x.v = 0 then { x with v := y.v } else x) = y)
def growL {α : Type} [Inhabited α] (f : α → α → Bool) (xs ys : List α) : Bool := (List.range xs.length).all fun i => f (xs.getD i default) (ys.getD i default)
def growsM (a b : Md) : Bool := decide (a.ns.length ≤ b.ns.length) && decide (a.vs.length ≤ b.vs.length) && growL growN a.ns b.ns && growL growV a.vs b.vs
theorem growL_all {α : Type} [Inhabited α] {f : α → α → Bool} {xs ys : List α} (h : ∀ i, i < xs.length → f (xs.getD i default) (ys.getD i default) = true) : growL f xs ys = true := by
  unfold growL
  rw [List.all_eq_true]
  exact fun i hi => h i (by simpa using hi)
theorem growL_no {α : Type} [Inhabited α] {f : α → α → Bool} {xs ys : List α} {i : Nat} (hi : i < xs.length) (h : f (xs.getD i default) (ys.getD i default) = false) : growL f xs ys = false := by
  unfold growL
  rw [Bool.eq_false_iff]
  intro hc
  rw [List.all_eq_true] at hc
  rw [hc i (by simpa using hi)] at h
  cases h
theorem getD_lt {α : Type} {l : List α} {k : Nat} (d : α) (h : k < l.length) : l[k] = l.getD k d := by simp [List.getD_eq_getElem?_getD, h]
theorem Nm.set39 {x : Nm} (h : x.f.length = 32) (b : Bool) : x.list.toArray.setIfInBounds 39 (.bool b) = ({ x with k := b } : Nm).list.toArray := by
  have hl : ([.string x.s] ++ x.p.list ++ cB x.f : List Value).length = 39 := by simp [P6.list_length, cB_length, h]
  have e : ∀ b, ({ x with k := b } : Nm).list = ([.string x.s] ++ x.p.list ++ cB x.f) ++ [.bool b] := fun b => by simp [Nm.list]
  have e0 : x.list = ([.string x.s] ++ x.p.list ++ cB x.f) ++ [.bool x.k] := by simp [Nm.list]
  rw [e b, e0, List.setIfInBounds_toArray, List.set_append_right _ _ (by omega), hl]
  rfl
theorem cellAfter {w : World} {x : Addr} {v : Value} (h : w.cell? x = some v) (o : Obj) : (w.alloc o).cell? x = some v :=
  (((Below.refl w.heap.size w).alloc (Nat.le_refl _) o).cell (World.block_lt_of_cell? w _ h)).trans h
def zNm : Array Value := (⟨ByteArray.empty, ⟨0, 0, 0, 0, 0, 0⟩, List.replicate 32 0, false⟩ : Nm).list.toArray
theorem zNm_run (w : World) : (zeroValue 69).run Tryd.prog w = .ok (.agg zNm) w := by kernel_rfl
theorem zNm_size : zNm.size = 40 := by kernel_rfl
theorem zNm_ne : zNm ≠ #[] := fun e => by have := zNm_size; rw [e] at this; cases this
theorem Nm.size {x : Nm} (h : x.f.length = 32) : x.list.toArray.size = 40 := by rw [List.size_toArray, Nm.list_length h]
theorem infoNm : (Tryd.prog.info? 69).map (·.size) = some 40 := by kernel_rfl

set_option maxRecDepth 100000 in
set_option maxHeartbeats 1000000 in
theorem grows_any (va vb : Value) (a b : Md) (w : World) (ha : ArgM w va a) (hb : ArgM w vb b) :
    Calls Tryd.prog 9 #[va, vb] w fun x w' => x = .returned (.bool (growsM a b)) ∧ Below w.heap.size w w' := by
  obtain ⟨⟨an, cn, av, cv, rfl, hN, hN1, hN2, hV, hV1, hV2⟩, okN, okV⟩ := ha
  obtain ⟨⟨bn, dn, bv, dv, rfl, hM, hM1, hM2, hU, hU1, hU2⟩, okM, okU⟩ := hb
  have zr := zNm_run
  have zn := zNm_ne
  have huN : Tryd.prog.underlying 69 = _ := Tryd.underlying69
  obtain ⟨q, hq⟩ : ∃ q, q = growsM a b := ⟨_, rfl⟩
  rw [← hq]
  obtain ⟨N, hNl⟩ : ∃ N, N = a.ns.length := ⟨_, rfl⟩
  obtain ⟨V, hVl⟩ : ∃ V, V = a.vs.length := ⟨_, rfl⟩
  obtain ⟨M, hMl⟩ : ∃ M, M = b.ns.length := ⟨_, rfl⟩
  obtain ⟨Z, hZl⟩ : ∃ Z, Z = b.vs.length := ⟨_, rfl⟩
  have m1 : N ≤ 9223372036854775807 := by unfold maxLen at *; omega
  have m2 : V ≤ 9223372036854775807 := by unfold maxLen at *; omega
  have m3 : M ≤ 9223372036854775807 := by unfold maxLen at *; omega
  have m4 : Z ≤ 9223372036854775807 := by unfold maxLen at *; omega
  rw [← hNl, ← hVl, ← hMl, ← hZl]
  clear hN1 hN2 hV1 hV2 hM1 hM2 hU1 hU2
  replace hq := Lib.hid hq
  replace hN := Lib.hid hN
  replace hV := Lib.hid hV
  replace hM := Lib.hid hM
  replace hU := Lib.hid hU
  replace okN := Lib.hid okN
  replace okV := Lib.hid okV
  replace okM := Lib.hid okM
  replace okU := Lib.hid okU
  replace hNl := Lib.hid hNl
  replace hVl := Lib.hid hVl
  replace hMl := Lib.hid hMl
  replace hZl := Lib.hid hZl
  by_cases h1 : M < N
  · have i1 : (M : Int) < (N : Int) := by omega
    have hq0 : q = false := by
      rw [hq.out, growsM, decide_eq_false (by rw [← hNl.out, ← hMl.out]; omega)]
      rfl
    subst hq0
    clear hq
    go_enter Tryd.func9, Tryd.ntmps9
    go_wp2_with fail
    go_ret
    exact ⟨rfl, ((Below.refl _ _).alloc (Nat.le_refl _) _).alloc (by simp) _⟩
  · have i1 : ¬ ((M : Int) < (N : Int)) := by omega
    by_cases h2 : Z < V
    · have i2 : (Z : Int) < (V : Int) := by omega
      have hq0 : q = false := by
        rw [hq.out, growsM, decide_eq_false (p := a.vs.length ≤ b.vs.length) (by rw [← hVl.out, ← hZl.out]; omega)]
        simp
      subst hq0
      clear hq
      go_enter Tryd.func9, Tryd.ntmps9
      go_wp2_with fail
      go_ret
      exact ⟨rfl, ((Below.refl _ _).alloc (Nat.le_refl _) _).alloc (by simp) _⟩
    · have i2 : ¬ ((Z : Int) < (V : Int)) := by omega
      have hq1 : q = (growL growN a.ns b.ns && growL growV a.vs b.vs) := by
        rw [hq.out, growsM, decide_eq_true (p := a.vs.length ≤ b.vs.length) (by rw [← hVl.out, ← hZl.out]; omega), decide_eq_true (p := a.ns.length ≤ b.ns.length) (by rw [← hNl.out, ← hMl.out]; omega)]
        simp
      replace hq1 := Lib.hid hq1
      clear hq
      have hB : Below w.heap.size w ((w.alloc (.cells #[.slice an N cn, .slice av V cv] 28)).alloc (.cells #[.slice bn M dn, .slice bv Z dv] 28)) := ((Below.refl _ _).alloc (Nat.le_refl _) _).alloc (by simp) _
      obtain ⟨w2, hw2⟩ : ∃ w2, w2 = (w.alloc (.cells #[.slice an N cn, .slice av V cv] 28)).alloc (.cells #[.slice bn M dn, .slice bv Z dv] 28) := ⟨_, rfl⟩
      have e20 : w2.cell? ⟨w.heap.size, 0, none⟩ = some (.slice an N cn) := by rw [hw2]; exact cellAfter (cell_of_block (heap_alloc_new w _) 0) _
      have e21 : w2.cell? ⟨w.heap.size, 1, none⟩ = some (.slice av V cv) := by rw [hw2]; exact cellAfter (cell_of_block (heap_alloc_new w _) 1) _
      have e30 : w2.cell? ⟨w.heap.size + 1, 0, none⟩ = some (.slice bn M dn) := by rw [hw2]; rw [show w.heap.size + 1 = (w.alloc (.cells #[.slice an N cn, .slice av V cv] 28)).heap.size by simp]; exact cell_of_block (heap_alloc_new (w.alloc (.cells #[.slice an N cn, .slice av V cv] 28)) (.cells #[.slice bn M dn, .slice bv Z dv] 28 (0, 0))) 0
      have e31 : w2.cell? ⟨w.heap.size + 1, 1, none⟩ = some (.slice bv Z dv) := by rw [hw2]; rw [show w.heap.size + 1 = (w.alloc (.cells #[.slice an N cn, .slice av V cv] 28)).heap.size by simp]; exact cell_of_block (heap_alloc_new (w.alloc (.cells #[.slice an N cn, .slice av V cv] 28)) (.cells #[.slice bn M dn, .slice bv Z dv] 28 (0, 0))) 1
      rw [← hw2] at hB
      have hN := Lib.hid (hN.out.below hB (Nat.le_refl _))
      have hV := Lib.hid (hV.out.below hB (Nat.le_refl _))
      have hM := Lib.hid (hM.out.below hB (Nat.le_refl _))
      have hU := Lib.hid (hU.out.below hB (Nat.le_refl _))
      replace hB := Lib.hid hB
      obtain ⟨n0, hn0⟩ : ∃ n0, n0 = w.heap.size := ⟨_, rfl⟩
      replace hw2 := Lib.hid hw2
      go_enter Tryd.func9, Tryd.ntmps9
      go_wp2_with fail
      rw [← hw2.out]
      rw [← hn0] at e20 e21 e30 e31 ⊢
      replace hn0 := Lib.hid hn0
      clear hw2
      refine wp_loopF [(false, 4), (true, 4), (false, 22), (true, 21), (false, 23)] _ [] (fun U wr => ∃ k : Nat, k ≤ N ∧ U 30 = .int .i64 (k : Nat) ∧ Below w2.heap.size w2 wr ∧ ∀ i, i < k → growN (a.ns.getD i default) (b.ns.getD i default) = true) (fun U _ => N - (intOf (U 30)).toNat) ?_ ?_
      · simp only [List.getD_cons_zero, List.getD_cons_succ]
        exact ⟨0, Nat.zero_le _, rfl, Below.refl _ _, fun i hi => absurd hi (Nat.not_lt_zero _)⟩
      · intro U wr hrel KK hback l' hl'
        obtain ⟨k, hk, h30, hbw, hle⟩ := hrel
        simp only [fillS, popSeg, cond_true, cond_false, Nat.reduceAdd, h30] at hl'
        subst hl'
        replace h30 := Lib.hid h30
        have f30 := (hbw.cell (World.block_lt_of_cell? w2 _ e30)).trans e30
        have f21 := (hbw.cell (World.block_lt_of_cell? w2 _ e21)).trans e21
        have f31 := (hbw.cell (World.block_lt_of_cell? w2 _ e31)).trans e31
        replace hle := Lib.hid hle
        by_cases hlt : k < N
        · have hlt2 : (k : Int) < (N : Int) := by omega
          have hlm : k < M := by omega
          have hlm2 : (k : Int) < (M : Int) := by omega
          have hkN : k < a.ns.length := by rw [← hNl.out]; exact hlt
          have hkM : k < b.ns.length := by rw [← hMl.out]; exact hlm
          obtain ⟨b1, o1, rfl, hr1⟩ := hN.out.below hbw (Nat.le_refl _) k hkN
          obtain ⟨b2, o2, rfl, hr2⟩ := hM.out.below hbw (Nat.le_refl _) k hkM
          have ox := okN.out _ (List.getElem_mem hkN)
          have oy := okM.out _ (List.getElem_mem hkM)
          rw [getD_lt default hkN] at hr1 ox
          rw [getD_lt default hkM] at hr2 oy
          have hgn : growN (a.ns.getD k default) (b.ns.getD k default) = growN (a.ns.getD k default) (b.ns.getD k default) := rfl
          generalize hx : a.ns.getD k default = x at *
          generalize hy : b.ns.getD k default = y at *
          obtain ⟨X, hX⟩ : ∃ X, X = x.list.toArray := ⟨_, rfl⟩
          obtain ⟨Y, hY⟩ : ∃ Y, Y = y.list.toArray := ⟨_, rfl⟩
          have hXs : X.size = 40 := by rw [hX, Nm.size ox.f]
          have hYs : Y.size = 40 := by rw [hY, Nm.size oy.f]
          have hX1 : X.all (·.oneCell') = true := by rw [hX]; exact x.all_one
          have hY1 : Y.all (·.oneCell') = true := by rw [hY]; exact y.all_one
          have iX : (Tryd.prog.info? 69).map (·.size) = some X.size := by rw [hXs]; exact infoNm
          have iY : (Tryd.prog.info? 69).map (·.size) = some Y.size := by rw [hYs]; exact infoNm
          have ix : (Tryd.prog.info? 69).map (·.size) = some x.list.length := by rw [Nm.list_length ox.f]; exact infoNm
          have iy : (Tryd.prog.info? 69).map (·.size) = some y.list.length := by rw [Nm.list_length oy.f]; exact infoNm
          have zX : zNm.size = X.size := by rw [hXs]; exact zNm_size
          have zY : zNm.size = Y.size := by rw [hYs]; exact zNm_size
          replace hr1 := Lib.hid hr1
          replace hr2 := Lib.hid hr2
          replace hX := Lib.hid hX
          replace hY := Lib.hid hY
          replace hx := Lib.hid hx
          replace hy := Lib.hid hy
          have hz1 : Hid ((wr.alloc (.cells zNm 69)).heap[wr.heap.size]? = some (.cells zNm 69 (0, 0))) := heap_alloc_new wr (.cells zNm 69 (0, 0))
          clear hgn
          obtain ⟨kb, hkb⟩ : ∃ kb, kb = (x.k || y.k) := ⟨_, rfl⟩
          obtain ⟨X', hX'⟩ : ∃ X', X' = ({ x with k := kb } : Nm).list.toArray := ⟨_, rfl⟩
          have hX's : X'.size = 40 := by rw [hX']; exact Nm.size (x := { x with k := kb }) ox.f
          have iX' : (Tryd.prog.info? 69).map (·.size) = some X'.size := by rw [hX's]; exact infoNm
          have hXc : X[39]? = some (.bool x.k) := by rw [hX.out]; simpa using Nm.c39 ox.f
          have hYc : Y[39]? = some (.bool y.k) := by rw [hY.out]; simpa using Nm.c39 oy.f
          have hXX : X.setIfInBounds 39 (.bool kb) = X' := by rw [hX.out, hX', Nm.set39 ox.f]
          have hgr : growN x y = decide (({ x with k := kb } : Nm) = y) := by rw [hkb]; rfl
          have hneq : ∀ W, (binOp .neq 69 (.agg X') (.agg Y)).run Tryd.prog W = .ok (.bool (!growN x y)) W := fun W => by
            rw [hX', hY.out, hgr]
            exact (neq_nmG { x with k := kb } y ⟨ox.s, ox.p, ox.f⟩ oy W).1
          have hgN : growN x y = growN (a.ns.getD k default) (b.ns.getD k default) := by rw [hx.out, hy.out]
          obtain ⟨gb, hgb⟩ : ∃ gb, gb = growN x y := ⟨_, rfl⟩
          rw [← hgb] at hneq hgN
          have hsz := hbw.size
          have hn0l : n0 + 1 < w2.heap.size := World.block_lt_of_cell? w2 _ e30
          replace hx := Lib.hid hx
          replace hy := Lib.hid hy
          replace hX' := Lib.hid hX'
          replace hgr := Lib.hid hgr
          replace hgN := Lib.hid hgN
          replace hgb := Lib.hid hgb
          replace hXX := Lib.hid hXX
          replace hXc := Lib.hid hXc
          replace hYc := Lib.hid hYc
          replace ox := Lib.hid ox
          replace oy := Lib.hid oy
          replace hbw := Lib.hid hbw
          obtain ⟨xk, hxk⟩ : ∃ xk, xk = x.k := ⟨_, rfl⟩
          obtain ⟨yk, hyk⟩ : ∃ yk, yk = y.k := ⟨_, rfl⟩
          rw [← hxk, ← hyk] at hkb
          have hXc : Hid (X[39]? = some (.bool xk)) := Lib.hid (by rw [hxk]; exact hXc.out)
          have hYc : Hid (Y[39]? = some (.bool yk)) := Lib.hid (by rw [hyk]; exact hYc.out)
          clear hxk hyk
          cases xk
          · have hkb2 : kb = yk := hkb
            subst hkb2
            clear hkb
            cases gb
            · have hq0 : q = false := by rw [hq1.out, growL_no hkN (by rw [← hgN.out]), Bool.false_and]
              subst hq0
              clear hq1
              (go_wp2_with (first | (refine wpList_load_mid rfl 69 (.tmp 33) rfl b1 (o1 + k * 40) rfl x.list _ hr1.out huN rfl ix ?_; rw [← hX.out]) | (refine wpList_store_row rfl 69 (.tmp 6) (.tmp 34) rfl wr.heap.size zNm X rfl rfl hz1 iX zX hX1 ?_; intro w3 hU3; have hb3 := Lib.hid (((Below.refl wr.heap.size wr).alloc (Nat.le_refl _) _).trans (hU3.out.below (Nat.le_refl _))); have q30 := (hb3.out.cell (World.block_lt_of_cell? wr _ f30)).trans f30; have hr2' := Lib.hid (rangeAt_below hr2.out hb3.out (Nat.le_refl _)); have hz2 : Hid ((w3.alloc (.cells zNm 69)).heap[w3.heap.size]? = some (.cells zNm 69 (0, 0))) := heap_alloc_new w3 (.cells zNm 69 (0, 0)); have h63 := Lib.hid (block_lt hU3.out.here)) | (refine wpList_load_mid rfl 69 (.tmp 38) rfl b2 (o2 + k * 40) rfl y.list _ hr2'.out huN rfl iy ?_; rw [← hY.out]) | (refine wpList_store_row rfl 69 (.tmp 7) (.tmp 39) rfl w3.heap.size zNm Y rfl rfl hz2 iY zY hY1 ?_; intro w4 hU4; have hb4 := Lib.hid (((Below.refl w3.heap.size w3).alloc (Nat.le_refl _) _).trans (hU4.out.below (Nat.le_refl _))); have h64 := (hb4.out.block wr.heap.size h63.out).trans hU3.out.here; have k6 := (cell_of_block h64 39).trans hXc.out; have k7 := (cell_of_block hU4.out.here 39).trans hYc.out; have f6 := free_of_block h64 39; have hU5 := (Upd.refl h64).setCell (j := 39) (.bool kb); rw [hXX.out] at hU5; have hX5 := Lib.hid hU5.here; have hY5 := Lib.hid ((hU5.block w3.heap.size (by have := h63.out; omega)).trans hU4.out.here); have hbel := Lib.hid (hbw.out.trans (((hb3.out.trans (hb4.out.mono hb3.out.size)).trans (hU5.below (Nat.le_refl _))).mono hsz)); replace h64 := Lib.hid h64; replace hU5 := Lib.hid hU5) | (refine wpList_load_row rfl 69 (.tmp 6) rfl wr.heap.size X' _ rfl hX5 huN rfl iX' ?_) | (refine wpList_load_row rfl 69 (.tmp 7) rfl w3.heap.size Y _ rfl hY5 huN rfl iY ?_)))
              go_ret
              exact ⟨rfl, hB.out.trans (hbel.out.mono hB.out.size)⟩
            · (go_wp2_with (first | (refine wpList_load_mid rfl 69 (.tmp 33) rfl b1 (o1 + k * 40) rfl x.list _ hr1.out huN rfl ix ?_; rw [← hX.out]) | (refine wpList_store_row rfl 69 (.tmp 6) (.tmp 34) rfl wr.heap.size zNm X rfl rfl hz1 iX zX hX1 ?_; intro w3 hU3; have hb3 := Lib.hid (((Below.refl wr.heap.size wr).alloc (Nat.le_refl _) _).trans (hU3.out.below (Nat.le_refl _))); have q30 := (hb3.out.cell (World.block_lt_of_cell? wr _ f30)).trans f30; have hr2' := Lib.hid (rangeAt_below hr2.out hb3.out (Nat.le_refl _)); have hz2 : Hid ((w3.alloc (.cells zNm 69)).heap[w3.heap.size]? = some (.cells zNm 69 (0, 0))) := heap_alloc_new w3 (.cells zNm 69 (0, 0)); have h63 := Lib.hid (block_lt hU3.out.here)) | (refine wpList_load_mid rfl 69 (.tmp 38) rfl b2 (o2 + k * 40) rfl y.list _ hr2'.out huN rfl iy ?_; rw [← hY.out]) | (refine wpList_store_row rfl 69 (.tmp 7) (.tmp 39) rfl w3.heap.size zNm Y rfl rfl hz2 iY zY hY1 ?_; intro w4 hU4; have hb4 := Lib.hid (((Below.refl w3.heap.size w3).alloc (Nat.le_refl _) _).trans (hU4.out.below (Nat.le_refl _))); have h64 := (hb4.out.block wr.heap.size h63.out).trans hU3.out.here; have k6 := (cell_of_block h64 39).trans hXc.out; have k7 := (cell_of_block hU4.out.here 39).trans hYc.out; have f6 := free_of_block h64 39; have hU5 := (Upd.refl h64).setCell (j := 39) (.bool kb); rw [hXX.out] at hU5; have hX5 := Lib.hid hU5.here; have hY5 := Lib.hid ((hU5.block w3.heap.size (by have := h63.out; omega)).trans hU4.out.here); have hbel := Lib.hid (hbw.out.trans (((hb3.out.trans (hb4.out.mono hb3.out.size)).trans (hU5.below (Nat.le_refl _))).mono hsz)); replace h64 := Lib.hid h64; replace hU5 := Lib.hid hU5) | (refine wpList_load_row rfl 69 (.tmp 6) rfl wr.heap.size X' _ rfl hX5 huN rfl iX' ?_) | (refine wpList_load_row rfl 69 (.tmp 7) rfl w3.heap.size Y _ rfl hY5 huN rfl iY ?_)))
              refine hback.out _ _ (by kernel_rfl) ?_ ?_
              · simp only [List.getD_cons_zero, List.getD_cons_succ]
                refine ⟨k + 1, by omega, by go_num, hbel.out, fun i hi => ?_⟩
                by_cases hik : i < k
                · exact hle.out i hik
                · obtain rfl : i = k := by omega
                  exact hgN.out.symm
              · have h30 := h30.out
                simp only [List.getD_cons_zero, List.getD_cons_succ, h30, intOf]
                omega
          · have hkb2 : kb = true := hkb
            subst hkb2
            clear hkb
            cases gb
            · have hq0 : q = false := by rw [hq1.out, growL_no hkN (by rw [← hgN.out]), Bool.false_and]
              subst hq0
              clear hq1
              (go_wp2_with (first | (refine wpList_load_mid rfl 69 (.tmp 33) rfl b1 (o1 + k * 40) rfl x.list _ hr1.out huN rfl ix ?_; rw [← hX.out]) | (refine wpList_store_row rfl 69 (.tmp 6) (.tmp 34) rfl wr.heap.size zNm X rfl rfl hz1 iX zX hX1 ?_; intro w3 hU3; have hb3 := Lib.hid (((Below.refl wr.heap.size wr).alloc (Nat.le_refl _) _).trans (hU3.out.below (Nat.le_refl _))); have q30 := (hb3.out.cell (World.block_lt_of_cell? wr _ f30)).trans f30; have hr2' := Lib.hid (rangeAt_below hr2.out hb3.out (Nat.le_refl _)); have hz2 : Hid ((w3.alloc (.cells zNm 69)).heap[w3.heap.size]? = some (.cells zNm 69 (0, 0))) := heap_alloc_new w3 (.cells zNm 69 (0, 0)); have h63 := Lib.hid (block_lt hU3.out.here)) | (refine wpList_load_mid rfl 69 (.tmp 38) rfl b2 (o2 + k * 40) rfl y.list _ hr2'.out huN rfl iy ?_; rw [← hY.out]) | (refine wpList_store_row rfl 69 (.tmp 7) (.tmp 39) rfl w3.heap.size zNm Y rfl rfl hz2 iY zY hY1 ?_; intro w4 hU4; have hb4 := Lib.hid (((Below.refl w3.heap.size w3).alloc (Nat.le_refl _) _).trans (hU4.out.below (Nat.le_refl _))); have h64 := (hb4.out.block wr.heap.size h63.out).trans hU3.out.here; have k6 := (cell_of_block h64 39).trans hXc.out; have k7 := (cell_of_block hU4.out.here 39).trans hYc.out; have f6 := free_of_block h64 39; have hU5 := (Upd.refl h64).setCell (j := 39) (.bool true); rw [hXX.out] at hU5; have hX5 := Lib.hid hU5.here; have hY5 := Lib.hid ((hU5.block w3.heap.size (by have := h63.out; omega)).trans hU4.out.here); have hbel := Lib.hid (hbw.out.trans (((hb3.out.trans (hb4.out.mono hb3.out.size)).trans (hU5.below (Nat.le_refl _))).mono hsz)); replace h64 := Lib.hid h64; replace hU5 := Lib.hid hU5) | (refine wpList_load_row rfl 69 (.tmp 6) rfl wr.heap.size X' _ rfl hX5 huN rfl iX' ?_) | (refine wpList_load_row rfl 69 (.tmp 7) rfl w3.heap.size Y _ rfl hY5 huN rfl iY ?_)))
              go_ret
              exact ⟨rfl, hB.out.trans (hbel.out.mono hB.out.size)⟩
            · (go_wp2_with (first | (refine wpList_load_mid rfl 69 (.tmp 33) rfl b1 (o1 + k * 40) rfl x.list _ hr1.out huN rfl ix ?_; rw [← hX.out]) | (refine wpList_store_row rfl 69 (.tmp 6) (.tmp 34) rfl wr.heap.size zNm X rfl rfl hz1 iX zX hX1 ?_; intro w3 hU3; have hb3 := Lib.hid (((Below.refl wr.heap.size wr).alloc (Nat.le_refl _) _).trans (hU3.out.below (Nat.le_refl _))); have q30 := (hb3.out.cell (World.block_lt_of_cell? wr _ f30)).trans f30; have hr2' := Lib.hid (rangeAt_below hr2.out hb3.out (Nat.le_refl _)); have hz2 : Hid ((w3.alloc (.cells zNm 69)).heap[w3.heap.size]? = some (.cells zNm 69 (0, 0))) := heap_alloc_new w3 (.cells zNm 69 (0, 0)); have h63 := Lib.hid (block_lt hU3.out.here)) | (refine wpList_load_mid rfl 69 (.tmp 38) rfl b2 (o2 + k * 40) rfl y.list _ hr2'.out huN rfl iy ?_; rw [← hY.out]) | (refine wpList_store_row rfl 69 (.tmp 7) (.tmp 39) rfl w3.heap.size zNm Y rfl rfl hz2 iY zY hY1 ?_; intro w4 hU4; have hb4 := Lib.hid (((Below.refl w3.heap.size w3).alloc (Nat.le_refl _) _).trans (hU4.out.below (Nat.le_refl _))); have h64 := (hb4.out.block wr.heap.size h63.out).trans hU3.out.here; have k6 := (cell_of_block h64 39).trans hXc.out; have k7 := (cell_of_block hU4.out.here 39).trans hYc.out; have f6 := free_of_block h64 39; have hU5 := (Upd.refl h64).setCell (j := 39) (.bool true); rw [hXX.out] at hU5; have hX5 := Lib.hid hU5.here; have hY5 := Lib.hid ((hU5.block w3.heap.size (by have := h63.out; omega)).trans hU4.out.here); have hbel := Lib.hid (hbw.out.trans (((hb3.out.trans (hb4.out.mono hb3.out.size)).trans (hU5.below (Nat.le_refl _))).mono hsz)); replace h64 := Lib.hid h64; replace hU5 := Lib.hid hU5) | (refine wpList_load_row rfl 69 (.tmp 6) rfl wr.heap.size X' _ rfl hX5 huN rfl iX' ?_) | (refine wpList_load_row rfl 69 (.tmp 7) rfl w3.heap.size Y _ rfl hY5 huN rfl iY ?_)))
              refine hback.out _ _ (by kernel_rfl) ?_ ?_
              · simp only [List.getD_cons_zero, List.getD_cons_succ]
                refine ⟨k + 1, by omega, by go_num, hbel.out, fun i hi => ?_⟩
                by_cases hik : i < k
                · exact hle.out i hik
                · obtain rfl : i = k := by omega
                  exact hgN.out.symm
              · have h30 := h30.out
                simp only [List.getD_cons_zero, List.getD_cons_succ, h30, intOf]
                omega
        · obtain rfl : k = N := by omega
          have hall := growL_all (f := growN) (xs := a.ns) (ys := b.ns) (fun i hi => hle.out i (by rw [hNl.out]; exact hi))
          have hq2 : Hid (q = growL growV a.vs b.vs) := Lib.hid (by rw [hq1.out, hall, Bool.true_and])
          have hsz := hbw.size
          have hV2 := Lib.hid (hV.out.below hbw (Nat.le_refl _))
          have hU2 := Lib.hid (hU.out.below hbw (Nat.le_refl _))
          have hB2 := Lib.hid (hB.out.trans (hbw.mono hB.out.size))
          clear hle hall hq1 hbw hV hU hback hN hM
          go_wp2_with fail
          refine wp_loopF [(false, 4), (true, 1), (false, 3), (true, 3), (false, 43), (true, 20)] _ [] (fun U2 w5 => ∃ j : Nat, j ≤ V ∧ U2 54 = .int .i64 (j : Nat) ∧ Below wr.heap.size wr w5 ∧ ∀ i, i < j → growV (a.vs.getD i default) (b.vs.getD i default) = true) (fun U2 _ => V - (intOf (U2 54)).toNat) ?_ ?_
          · simp only [List.getD_cons_zero, List.getD_cons_succ]
            exact ⟨0, Nat.zero_le _, rfl, Below.refl _ _, fun i hi => absurd hi (Nat.not_lt_zero _)⟩
          · intro U2 w5 hrel KK2 hback2 l2 hl2
            obtain ⟨j, hj, h54, hb5, hle⟩ := hrel
            simp only [fillS, popSeg, cond_true, cond_false, Nat.reduceAdd, h54] at hl2
            subst hl2
            replace h54 := Lib.hid h54
            have p31 := (hb5.cell (World.block_lt_of_cell? wr _ f31)).trans f31
            replace hle := Lib.hid hle
            by_cases hlt2 : j < V
            · have hlt3 : (j : Int) < (V : Int) := by omega
              have hlm : j < Z := by omega
              have hlm2 : (j : Int) < (Z : Int) := by omega
              have hkV : j < a.vs.length := by rw [← hVl.out]; exact hlt2
              have hkZ : j < b.vs.length := by rw [← hZl.out]; exact hlm
              obtain ⟨b1, o1, rfl, hr1⟩ := hV2.out.below hb5 (Nat.le_refl _) j hkV
              obtain ⟨b2, o2, rfl, hr2⟩ := hU2.out.below hb5 (Nat.le_refl _) j hkZ
              have ox := okV.out _ (List.getElem_mem hkV)
              have oy := okU.out _ (List.getElem_mem hkZ)
              rw [getD_lt default hkV] at hr1 ox
              rw [getD_lt default hkZ] at hr2 oy
              obtain ⟨gb, hgb⟩ : ∃ gb, gb = growV (a.vs.getD j default) (b.vs.getD j default) := ⟨_, rfl⟩
              generalize hx : a.vs.getD j default = x at *
              generalize hy : b.vs.getD j default = y at *
              obtain ⟨xo, xw, xv⟩ := x
              obtain ⟨yo, yw, yv⟩ := y
              have d0 := hr1 0 _ rfl
              have d1 := hr1 1 _ rfl
              have d2 := hr1 2 _ rfl
              have z0 := hr2 0 _ rfl
              have z1 := hr2 1 _ rfl
              have z2 := hr2 2 _ rfl
              simp only [Nat.add_zero] at d0 d1 d2 z0 z1 z2
              have y0 := fun o => cellAfter z0 o
              have y1 := fun o => cellAfter z1 o
              have y2 := fun o => cellAfter z2 o
              have p31a := fun o => cellAfter p31 o
              clear hr1 hr2
              have hgV : Hid (gb = growV (a.vs.getD j default) (b.vs.getD j default)) := Lib.hid (by rw [hx, hy]; exact hgb)
              have hne : ∀ (p : Int) W, inI p → (binOp .neq 70 (.agg #[.int .i64 xo, .int .i64 xw, .int .i64 p]) (.agg #[.int .i64 yo, .int .i64 yw, .int .i64 yv])).run Tryd.prog W = .ok (.bool (!decide ((⟨xo, xw, p⟩ : Vd) = ⟨yo, yw, yv⟩))) W := fun p W hp => neq_vdG ⟨xo, xw, p⟩ ⟨yo, yw, yv⟩ ⟨ox.1, ox.2.1, hp⟩ oy W
              have hsz5 := hb5.size
              have hn0l : n0 + 1 < w2.heap.size := World.block_lt_of_cell? w2 _ e31
              by_cases hv0 : xv = 0
              · have hv0b : (xv == 0) = true := by simpa using hv0
                have hne := fun W => hne yv W oy.2.2
                have hgb2 : gb = decide ((⟨xo, xw, yv⟩ : Vd) = ⟨yo, yw, yv⟩) := by rw [hgb, growV, if_pos hv0]
                rw [← hgb2] at hne
                subst hv0
                replace hx := Lib.hid hx
                replace hy := Lib.hid hy
                replace hb5 := Lib.hid hb5
                replace ox := Lib.hid ox
                replace oy := Lib.hid oy
                clear hgb hgb2
                have hfin5 := fun A B => ((hb5.out.trans (((Below.refl w5.heap.size w5).alloc (Nat.le_refl _) A).mono hsz5)).trans (((Below.refl _ (w5.alloc A)).alloc (Nat.le_refl _) B).mono (by simp; omega)))
                replace hfin5 := Lib.hid hfin5
                cases gb
                · have hq0 : q = false := by rw [hq2.out]; exact growL_no hkV (by rw [← hgV.out])
                  subst hq0
                  clear hq2
                  go_wp2_with fail
                  go_ret
                  exact ⟨rfl, hB2.out.trans ((hfin5.out _ _).mono hB2.out.size)⟩
                · go_wp2_with fail
                  refine hback2.out _ _ (by kernel_rfl) ?_ ?_
                  · simp only [List.getD_cons_zero, List.getD_cons_succ]
                    refine ⟨j + 1, by omega, by go_num, hfin5.out _ _, fun i hi => ?_⟩
                    by_cases hik : i < j
                    · exact hle.out i hik
                    · obtain rfl : i = j := by omega
                      exact hgV.out.symm
                  · have h54 := h54.out
                    simp only [List.getD_cons_zero, List.getD_cons_succ, h54, intOf]
                    omega
              · have hv0b : (xv == 0) = false := by simpa using hv0
                have hne := fun W => hne xv W ox.2.2
                have hgb2 : gb = decide ((⟨xo, xw, xv⟩ : Vd) = ⟨yo, yw, yv⟩) := by rw [hgb, growV, if_neg hv0]
                rw [← hgb2] at hne
                replace hv0 := Lib.hid hv0
                replace hx := Lib.hid hx
                replace hy := Lib.hid hy
                replace hb5 := Lib.hid hb5
                replace ox := Lib.hid ox
                replace oy := Lib.hid oy
                clear hgb hgb2
                have hfin5 := fun A B => ((hb5.out.trans (((Below.refl w5.heap.size w5).alloc (Nat.le_refl _) A).mono hsz5)).trans (((Below.refl _ (w5.alloc A)).alloc (Nat.le_refl _) B).mono (by simp; omega)))
                replace hfin5 := Lib.hid hfin5
                cases gb
                · have hq0 : q = false := by rw [hq2.out]; exact growL_no hkV (by rw [← hgV.out])
                  subst hq0
                  clear hq2
                  go_wp2_with fail
                  go_ret
                  exact ⟨rfl, hB2.out.trans ((hfin5.out _ _).mono hB2.out.size)⟩
                · go_wp2_with fail
                  refine hback2.out _ _ (by kernel_rfl) ?_ ?_
                  · simp only [List.getD_cons_zero, List.getD_cons_succ]
                    refine ⟨j + 1, by omega, by go_num, hfin5.out _ _, fun i hi => ?_⟩
                    by_cases hik : i < j
                    · exact hle.out i hik
                    · obtain rfl : i = j := by omega
                      exact hgV.out.symm
                  · have h54 := h54.out
                    simp only [List.getD_cons_zero, List.getD_cons_succ, h54, intOf]
                    omega
            · obtain rfl : j = V := by omega
              have hq3 : q = true := by rw [hq2.out]; exact growL_all (fun i hi => hle.out i (by rw [hVl.out]; exact hi))
              subst hq3
              replace hb5 := Lib.hid hb5
              clear hq2
              go_wp2_with fail
              go_ret
              exact ⟨rfl, hB2.out.trans (hb5.out.mono hB2.out.size)⟩
end Go.Proofs.YtndgacjfkoliaaaDoor
