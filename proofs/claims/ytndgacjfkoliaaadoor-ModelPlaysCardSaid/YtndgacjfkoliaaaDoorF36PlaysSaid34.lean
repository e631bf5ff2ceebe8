/- baileeref34.Put. Printed by genrput.py. -/
import Derived.Test.YtndgacjfkoliaaaDoorF22PlaysSaid34
import Derived.Test.YtndgacjfkoliaaaDoorF29PlaysSaid34
import Derived.Test.YtndgacjfkoliaaaDoorF32PlaysSaid34
import Derived.Test.YtndgacjfkoliaaaDoorF4PlaysSaid34
namespace Go.Proofs.YtndgacjfkoliaaaDoor
open Go.RowKit
set_option linter.unusedSimpArgs false
set_option linter.unusedVariables false

section
variable {P : Program} {ops : Array Oper} {rest : List Oper} {op : Oper} {a : Act} {w : World} {Q : Exit → Act → World → Prop}
theorem wpList_load_midG (hw : Region.wanted op (yielded ops a.tmps) = true) (ty : TypeId) (x : Operand) (ho : op.op = .load ty x)
    (b o : Nat) (hx : a.eval x = .pointer (some ⟨b, o, none⟩)) (cs : List Value) (d : TypeDesc) (hc : w.rangeAt b o cs)
    (hu : P.underlying ty = some d) (hd : d.isRow = true) (hi : (P.info? ty).map (·.size) = some cs.length) (C : Array Value) (hC : Hid (C = cs.toArray))
    (h : wpList P ops Q rest (a.put op.dst (.agg C)) w) : wpList P ops Q (op :: rest) a w := by
  refine wpList_step fun K hK => ?_
  rw [if_pos hw]
  rw [hC.out] at h
  exact wp_load_mid ty x ho b o hx cs d hc hu hd hi (hK _ _ h)
end

theorem zNmR_run (w : World) : (zeroValue 67).run Tryd.prog w = .ok (.agg zNm) w := by kernel_rfl
theorem rangeAt_of_cells {w : World} {b : Nat} {cs : List Value} {t : TypeId} {z : Nat × Nat} (h : w.heap[b]? = some (.cells cs.toArray t z)) : w.rangeAt b 0 cs := fun j v hv => by
  rw [Nat.zero_add, cell_of_block h, List.getElem?_toArray]
  exact hv
theorem four_allocs (w : World) (c0 c1 c2 c3 : Array Value) (t0 t1 t2 t3 : TypeId) (W : World) (hW : W = (((w.alloc (.cells c0 t0)).alloc (.cells c1 t1)).alloc (.cells c2 t2)).alloc (.cells c3 t3)) :
    W.heap[w.heap.size]? = some (.cells c0 t0 (0, 0)) ∧ W.heap[w.heap.size + 1]? = some (.cells c1 t1 (0, 0)) ∧ W.heap[w.heap.size + 2]? = some (.cells c2 t2 (0, 0)) ∧ W.heap[w.heap.size + 3]? = some (.cells c3 t3 (0, 0)) ∧ W.heap.size = w.heap.size + 4 ∧ Below w.heap.size w W := by
  subst hW
  refine ⟨?_, ?_, ?_, ?_, by simp, ?_⟩
  · exact alloc_keep (alloc_keep (alloc_keep (alloc_at rfl _ _) _) _) _
  · exact alloc_keep (alloc_keep (alloc_at (by simp) _ _) _) _
  · exact alloc_keep (alloc_at (by simp) _ _) _
  · exact alloc_at (by simp) _ _
  · exact ((((Below.refl _ _).alloc (Nat.le_refl _) _).alloc (by simp) _).alloc (by simp; omega) _).alloc (by simp; omega) _
/-- What Put answers behind Check and the size. -/
def rPut (m : Md) (s : ByteArray) (f : List UInt8) (p : P6) : Md × Int × Nat :=
  match m.ns.findIdx? (fun x => decide (x = ⟨s, p, f, false⟩)) with
  | some j => (m, (j : Int), 0)
  | none => if labB s.data.toList = false then (m, 0, 6) else if m.ns.any (fun x => decide (x.s = s)) = true then (m, 0, 10) else if 4 ≤ m.ns.length then (m, 0, 12) else (⟨m.ns ++ [⟨s, p, f, false⟩], m.vs⟩, (m.ns.length : Int), 0)
theorem rPut_hit {m : Md} {s : ByteArray} {f : List UInt8} {p : P6} {j : Nat} (hj : j < m.ns.length) (h : ∀ i (hi : i < m.ns.length), i < j → m.ns[i] ≠ ⟨s, p, f, false⟩) (he : m.ns[j] = ⟨s, p, f, false⟩) : rPut m s f p = (m, (j : Int), 0) := by
  have hf : m.ns.findIdx? (fun x => decide (x = ⟨s, p, f, false⟩)) = some j := by
    rw [List.findIdx?_eq_some_iff_getElem]
    exact ⟨hj, by simpa using he, fun i hi => by simpa using h i (by omega) hi⟩
  unfold rPut
  rw [hf]
theorem rPut_no {m : Md} {s : ByteArray} {f : List UInt8} {p : P6} (h : ∀ i (hi : i < m.ns.length), m.ns[i] ≠ ⟨s, p, f, false⟩) : rPut m s f p = if labB s.data.toList = false then (m, 0, 6) else if m.ns.any (fun x => decide (x.s = s)) = true then (m, 0, 10) else if 4 ≤ m.ns.length then (m, 0, 12) else (⟨m.ns ++ [⟨s, p, f, false⟩], m.vs⟩, (m.ns.length : Int), 0) := by
  have hf : m.ns.findIdx? (fun x => decide (x = ⟨s, p, f, false⟩)) = none := by
    rw [List.findIdx?_eq_none_iff]
    intro x hx
    obtain ⟨i, hi, rfl⟩ := List.getElem_of_mem hx
    simpa using h i hi
  unfold rPut
  rw [hf]
set_option maxRecDepth 100000 in
set_option maxHeartbeats 4000000 in
theorem rput_rest (va : Value) (m : Md) (w : World) (ha : ArgM w va m) (l1 : m.ns.length ≤ 4) (l2 : m.vs.length ≤ 1000) (s : ByteArray) (f : List UInt8) (p : P6) (hs : s.size ≤ 1000000) (hf : f.length = 32) (hp : p.Ok) (hpo : badAt p.s p.n p.k p.d p.t p.r = none) :
    Calls Tryd.prog 17 #[va, .string s, .int .i64 p.s, .agg (cB f).toArray, .agg p.list.toArray] w (RNPost (rPut m s f p).1 (rPut m s f p).2.1 (rPut m s f p).2.2 w) := by
  have ha0 := ha
  obtain ⟨⟨an, cn, av, cv, e0, hN, -, -, hV, -, -⟩, okN, okV⟩ := ha
  obtain ⟨PP, hPP⟩ : ∃ PP, PP = p.list.toArray := ⟨_, rfl⟩
  obtain ⟨DD, hDD⟩ : ∃ DD, DD = (cB f).toArray := ⟨_, rfl⟩
  obtain ⟨N, hNl⟩ : ∃ N, N = m.ns.length := ⟨_, rfl⟩
  obtain ⟨V, hVl⟩ : ∃ V, V = m.vs.length := ⟨_, rfl⟩
  rw [← hNl, ← hVl] at e0
  obtain ⟨CM, hCM⟩ : ∃ CM : Array Value, CM = #[.slice an N cn, .slice av V cv] := ⟨_, rfl⟩
  rw [← hCM] at e0
  subst e0
  obtain ⟨w2, hw2⟩ : ∃ w2, w2 = (((w.alloc (.cells CM 32)).alloc (.cells DD 35)).alloc (.cells PP 59)).alloc (.cells #[.slice none 0 0, .slice none 0 0] 32) := ⟨_, rfl⟩
  obtain ⟨b0, b1, b2, b3, hs2, hB⟩ := four_allocs w _ _ _ _ _ _ _ _ w2 hw2
  have hck : ∀ W, Calls Tryd.prog 32 #[.agg PP] W fun e w' => e = .returned (.tuple #[.string ⟨#[]⟩, .int .i64 0, .int .i64 0]) ∧ Below W.heap.size W w' := fun W => by
    rw [hPP]
    have := rcheck_any p.s p.n p.k p.d p.t p.r W
    rw [hpo] at this
    exact this
  have hlb : ∀ W, Calls Tryd.prog 33 #[.string s] W fun e w' => e = .returned (.bool (labB s.data.toList)) ∧ W = w' := fun W => rLabel_any s W (Nat.le_trans hs (by decide))
  have hcp : ∀ W, Below w.heap.size w W → Calls Tryd.prog 34 #[.agg CM] W (CopiedPost W m) := fun W hW => copied_any _ m W (ha0.below hW (Nat.le_refl _)) (by omega) l2
  have huM : Tryd.prog.underlying 32 = _ := Tryd.underlying32
  have huP : Tryd.prog.underlying 59 = _ := Tryd.underlying59
  have huD : Tryd.prog.underlying 35 = _ := Tryd.underlying35
  have huN : Tryd.prog.underlying 67 = _ := Tryd.underlying67
  have iM : (Tryd.prog.info? 32).map (·.size) = some CM.size := by rw [hCM]; kernel_rfl
  have h1M : CM.all (·.oneCell') = true := by rw [hCM]; simp [Value.oneCell']
  have hss : (#[.slice none 0 0, .slice none 0 0] : Array Value).size = CM.size := by rw [hCM]; rfl
  have iP : (Tryd.prog.info? 59).map (·.size) = some PP.size := by rw [hPP]; kernel_rfl
  have iPl : (Tryd.prog.info? 59).map (·.size) = some p.list.length := by kernel_rfl
  have iD : (Tryd.prog.info? 35).map (·.size) = some DD.size := by rw [hDD, List.size_toArray, cB_length, hf]; kernel_rfl
  have iDl : (Tryd.prog.info? 35).map (·.size) = some (cB f).length := by rw [cB_length, hf]; kernel_rfl
  have hP0 : PP[0]? = some (.int .i64 p.s) := by rw [hPP]; rfl
  have hC0 : CM[0]? = some (.slice an N cn) := by rw [hCM]; rfl
  have hpost : Hid (∀ (k : Int) (n : Nat) W, Below w.heap.size w W → RNPost m k n w (.returned (.tuple #[.agg CM, .int .i64 k, .int .i64 (n : Int)])) W) := Lib.hid (fun k n W h => ⟨_, rfl, ha0.below h (Nat.le_refl _), h⟩)
  obtain ⟨RES, hRES⟩ : ∃ RES, RES = rPut m s f p := ⟨_, rfl⟩
  rw [← hPP, ← hDD, ← hRES]
  have hNb : N ≤ 4 := by rw [hNl]; exact l1
  have c20 : w2.cell? ⟨w.heap.size + 2, 0, none⟩ = some (.int .i64 p.s) := by rw [cell_of_block b2]; exact hP0
  replace hck := Lib.hid hck
  replace hlb := Lib.hid hlb
  replace hcp := Lib.hid hcp
  replace hNl := Lib.hid hNl
  replace hVl := Lib.hid hVl
  replace hw2 := Lib.hid hw2
  replace b0 := Lib.hid b0
  replace b1 := Lib.hid b1
  replace b2 := Lib.hid b2
  replace b3 := Lib.hid b3
  replace hB := Lib.hid hB
  replace hs2 := Lib.hid hs2
  replace hPP := Lib.hid hPP
  replace hDD := Lib.hid hDD
  replace hCM := Lib.hid hCM
  replace hP0 := Lib.hid hP0
  replace hC0 := Lib.hid hC0
  replace hRES := Lib.hid hRES
  replace hN := Lib.hid hN
  replace okN := Lib.hid okN
  replace hs := Lib.hid hs
  replace hf := Lib.hid hf
  replace hp := Lib.hid hp
  replace l1 := Lib.hid l1
  clear hV okV ha0 hpo l2
  have zr := zNmR_run
  have zn := zNm_ne
  go_enter Tryd.func17, Tryd.ntmps17
  go_upto_region 1 with fail
  rw [← hw2.out]
  clear hw2
  go_wp2_with (refine wpList_load_row rfl 59 (.tmp 9) rfl (w.heap.size + 2) PP _ rfl b2 huP rfl iP ?_)
  with_reducible refine (hck.out w2).mono ?_
  rintro e w3 ⟨rfl, hb3⟩
  have hB3 := Lib.hid (hB.out.trans (hb3.mono hB.out.size))
  have x0 := Lib.hid ((hb3.block _ (block_lt b0.out)).trans b0.out)
  have x1 := Lib.hid ((hb3.block _ (block_lt b1.out)).trans b1.out)
  have x2 := Lib.hid ((hb3.block _ (block_lt b2.out)).trans b2.out)
  have x3 := Lib.hid ((hb3.block _ (block_lt b3.out)).trans b3.out)
  have d20 := (hb3.cell (World.block_lt_of_cell? w2 _ c20)).trans c20
  have c00 : w3.cell? ⟨w.heap.size, 0, none⟩ = some (.slice an N cn) := by rw [cell_of_block x0.out]; exact hC0.out
  have hsz3 : w.heap.size + 4 ≤ w3.heap.size := by have := hs2.out; have := hb3.size; omega
  replace hsz3 := Lib.hid hsz3
  have hN3 := Lib.hid (hN.out.below hB3.out (Nat.le_refl _))
  clear hck hb3 b0 b1 b2 b3 hB c20
  go_wp2_with fail
  clear d20 c00
  refine wp_loopF [(false, 16), (true, 2), (false, 21), (true, 29), (false, 37)] _ [] (fun U wr => ∃ j : Nat, j ≤ N ∧ U 39 = .int .i64 (j : Nat) ∧ Below w3.heap.size w3 wr ∧ ∀ i (hi : i < m.ns.length), i < j → m.ns[i] ≠ ⟨s, p, f, false⟩) (fun U _ => N - (intOf (U 39)).toNat) ?_ ?_
  · simp only [List.getD_cons_zero, List.getD_cons_succ]
    exact ⟨0, Nat.zero_le _, rfl, Below.refl _ _, fun i _ hi => absurd hi (Nat.not_lt_zero _)⟩
  · intro U wr hrel KK hback l' hl'
    obtain ⟨j, hj, h39, hbw, hall⟩ := hrel
    simp only [fillS, popSeg, cond_true, cond_false, Nat.reduceAdd, h39] at hl'
    subst hl'
    have hsz := hbw.size
    have y0 := Lib.hid ((hbw.block _ (block_lt x0.out)).trans x0.out)
    have y1 := Lib.hid ((hbw.block _ (block_lt x1.out)).trans x1.out)
    have y2 := Lib.hid ((hbw.block _ (block_lt x2.out)).trans x2.out)
    have y3 := Lib.hid ((hbw.block _ (block_lt x3.out)).trans x3.out)
    replace h39 := Lib.hid h39
    replace hall := Lib.hid hall
    by_cases hlt : j < N
    · have hlt2 : (j : Int) < (N : Int) := by omega
      have hjN : j < m.ns.length := by rw [← hNl.out]; exact hlt
      obtain ⟨b1, o1, rfl, hr1⟩ := (hN3.out.below hbw (Nat.le_refl _)) j hjN
      have ox := okN.out _ (List.getElem_mem hjN)
      have hstep := Lib.hid (fun (e : m.ns[j] ≠ ⟨s, p, f, false⟩) => show ∀ i (hi : i < m.ns.length), i < j + 1 → m.ns[i] ≠ ⟨s, p, f, false⟩ from fun i hi hij => by
        by_cases hij2 : i < j
        · exact hall.out i hi hij2
        · obtain rfl : i = j := by omega
          exact e)
      have hhit := Lib.hid (fun (e : m.ns[j] = ⟨s, p, f, false⟩) => show RES = (m, (j : Int), 0) by rw [hRES.out]; exact rPut_hit hjN hall.out e)
      generalize m.ns[j] = x at *
      obtain ⟨X, hX⟩ : ∃ X, X = x.list.toArray := ⟨_, rfl⟩
      have hX40 : X.size = 40 := by rw [hX, List.size_toArray, Nm.list_length ox.f]
      have ix : (Tryd.prog.info? 67).map (·.size) = some x.list.length := by rw [Nm.list_length ox.f]; kernel_rfl
      have iX : (Tryd.prog.info? 67).map (·.size) = some X.size := by rw [hX40]; kernel_rfl
      have zX : zNm.size = X.size := by rw [hX40]; exact zNm_size
      have h1X : X.all (·.oneCell') = true := by rw [hX]; exact Nm.all_one x
      have hX0 : X[0]? = some (.string x.s) := by rw [hX]; rfl
      have hX39 : X[39]? = some (.bool x.k) := by rw [hX, List.getElem?_toArray]; exact Nm.c39 ox.f
      have hsub : ∀ (W : World) (b : Nat) (o n : Nat) (cs : List Value), (x.list.drop o).take n = cs → W.heap[b]? = some (.cells X 67 (0, 0)) → W.rangeAt b o cs := fun W b o n cs hcs hW jj v hv => by
        rw [cell_of_block hW, hX, List.getElem?_toArray]
        rw [← hcs, List.getElem?_take] at hv
        split at hv
        · rw [List.getElem?_drop] at hv
          exact hv
        · cases hv
      have hXP := Lib.hid (fun W (hW : W.heap[wr.heap.size]? = some (.cells X 67 (0, 0))) => hsub W wr.heap.size 1 6 x.p.list (Nm.sub_p x) hW)
      have hXF := Lib.hid (fun W (hW : W.heap[wr.heap.size]? = some (.cells X 67 (0, 0))) => hsub W wr.heap.size 7 32 (cB x.f) (Nm.sub_f ox.f) hW)
      have iXP : (Tryd.prog.info? 59).map (·.size) = some x.p.list.length := by kernel_rfl
      have iXF : (Tryd.prog.info? 35).map (·.size) = some (cB x.f).length := by rw [cB_length, ox.f]; kernel_rfl
      obtain ⟨xp, hxp⟩ : ∃ xp, xp = x.p.list.toArray := ⟨_, rfl⟩
      obtain ⟨xf, hxf⟩ : ∃ xf, xf = (cB x.f).toArray := ⟨_, rfl⟩
      have ep := fun W => eql_parR x.p p ox.p hp.out W
      have ed := fun W => eql_d32 x.f f ox.f hf.out W
      rw [← hxp, ← hPP.out] at ep
      rw [← hxf, ← hDD.out] at ed
      have hZ := Lib.hid (heap_alloc_new wr (.cells zNm 67))
      have hBw := Lib.hid (hB3.out.trans (hbw.mono hB3.out.size))
      clear hsub
      replace hX := Lib.hid hX
      replace hX0 := Lib.hid hX0
      replace hX39 := Lib.hid hX39
      replace hxp := Lib.hid hxp
      replace hxf := Lib.hid hxf
      replace hr1 := Lib.hid hr1
      replace hbw := Lib.hid hbw
      replace ox := Lib.hid ox
      by_cases hs1 : x.s = s
      · have hse : (x.s.toList == s.toList) = true := by rw [bytes_eq]; simp [hs1]
        by_cases hk1 : x.k = true
        · have hno := Lib.hid (show x ≠ ⟨s, p, f, false⟩ from fun e => by rw [e] at hk1; cases hk1)
          replace hs1 := Lib.hid hs1
          rw [hk1] at hX39
          clear hhit ep ed
          go_wp2_with (first
            | ((with_reducible show wpList _ _ _ (Oper.mk _ (Op.load 67 (.tmp 42)) _ _ _ _ :: _) _ _); refine wpList_load_mid rfl 67 (.tmp 42) rfl b1 (o1 + j * 40) rfl x.list _ hr1.out huN rfl ix ?_; rw [← hX.out]; simp only [Act.put, List.setIfInBounds_toArray, List.set_cons_zero, List.set_cons_succ])
            | ((with_reducible show wpList _ _ _ (Oper.mk _ (Op.store 67 (.tmp 17) _) _ _ _ _ :: _) _ _); (refine wpList_store_row rfl 67 (.tmp 17) (.tmp 43) rfl wr.heap.size _ X rfl rfl hZ iX zX h1X ?_); intro w5 hU5; have hb5 : Below wr.heap.size wr w5 := (Below.alloc (Below.refl wr.heap.size wr) (Nat.le_refl _) _).trans (hU5.out.below (Nat.le_refl _)); have k0 : w5.cell? ⟨wr.heap.size, 0, none⟩ = some (.string x.s) := (by rw [cell_of_block hU5.out.here]; exact hX0.out); have k39 : w5.cell? ⟨wr.heap.size, 39, none⟩ = some (.bool true) := (by rw [cell_of_block hU5.out.here]; exact hX39.out); have hb25 := Lib.hid (hbw.out.trans (hb5.mono hsz)); have z0 := Lib.hid ((hb5.block _ (block_lt y0.out)).trans y0.out); have z3 := Lib.hid ((hb5.block _ (block_lt y3.out)).trans y3.out); have rP := Lib.hid (hXP.out _ hU5.out.here); have rF := Lib.hid (hXF.out _ hU5.out.here); have qP := Lib.hid (rangeAt_of_cells (cs := p.list) (t := 59) (z := (0, 0)) (by rw [← hPP.out]; exact (hb5.block _ (block_lt y2.out)).trans y2.out)); have qF := Lib.hid (rangeAt_of_cells (cs := cB f) (t := 35) (z := (0, 0)) (by rw [← hDD.out]; exact (hb5.block _ (block_lt y1.out)).trans y1.out)); clear hb5 hU5; simp only [Act.put, List.setIfInBounds_toArray, List.set_cons_zero, List.set_cons_succ])
            | ((with_reducible show wpList _ _ _ (Oper.mk _ (Op.load 59 (.tmp 54)) _ _ _ _ :: _) _ _); refine wpList_load_midG (by kernel_rfl) 59 (.tmp 54) rfl wr.heap.size 1 rfl x.p.list _ rP.out huP rfl iXP _ hxp ?_; simp only [Act.put, List.setIfInBounds_toArray, List.set_cons_zero, List.set_cons_succ])
            | ((with_reducible show wpList _ _ _ (Oper.mk _ (Op.load 59 (.tmp 9)) _ _ _ _ :: _) _ _); refine wpList_load_midG (by kernel_rfl) 59 (.tmp 9) rfl (w.heap.size + 2) 0 rfl p.list _ qP.out huP rfl iPl _ hPP ?_; simp only [Act.put, List.setIfInBounds_toArray, List.set_cons_zero, List.set_cons_succ])
            | ((with_reducible show wpList _ _ _ (Oper.mk _ (Op.load 35 (.tmp 60)) _ _ _ _ :: _) _ _); refine wpList_load_midG (by kernel_rfl) 35 (.tmp 60) rfl wr.heap.size 7 rfl (cB x.f) _ rF.out huD rfl iXF _ hxf ?_; simp only [Act.put, List.setIfInBounds_toArray, List.set_cons_zero, List.set_cons_succ])
            | ((with_reducible show wpList _ _ _ (Oper.mk _ (Op.load 35 (.tmp 8)) _ _ _ _ :: _) _ _); refine wpList_load_midG (by kernel_rfl) 35 (.tmp 8) rfl (w.heap.size + 1) 0 rfl (cB f) _ qF.out huD rfl iDl _ hDD ?_; simp only [Act.put, List.setIfInBounds_toArray, List.set_cons_zero, List.set_cons_succ]))
          refine hback.out _ _ (by kernel_rfl) ?_ ?_
          · simp only [List.getD_cons_zero, List.getD_cons_succ]
            exact ⟨j + 1, hlt, by go_num, hb25.out, hstep.out hno.out⟩
          · have h39 := h39.out
            simp only [List.getD_cons_zero, List.getD_cons_succ, h39, intOf]
            omega
        · have hk0 : x.k = false := by simpa using hk1
          rw [hk0] at hX39
          clear hk1
          by_cases hp1 : x.p = p
          · rw [decide_eq_true hp1] at ep
            by_cases hf1 : x.f = f
            · rw [decide_eq_true hf1] at ed
              have hRE := Lib.hid (hhit.out (by obtain ⟨xs, xpp, xff, xk⟩ := x; cases hs1; cases hp1; cases hf1; cases hk0; rfl))
              replace hs1 := Lib.hid hs1
              replace hp1 := Lib.hid hp1
              replace hf1 := Lib.hid hf1
              replace hk0 := Lib.hid hk0
              clear hback hstep hhit
              go_wp2_with (first
                | ((with_reducible show wpList _ _ _ (Oper.mk _ (Op.load 67 (.tmp 42)) _ _ _ _ :: _) _ _); refine wpList_load_mid rfl 67 (.tmp 42) rfl b1 (o1 + j * 40) rfl x.list _ hr1.out huN rfl ix ?_; rw [← hX.out]; simp only [Act.put, List.setIfInBounds_toArray, List.set_cons_zero, List.set_cons_succ])
                | ((with_reducible show wpList _ _ _ (Oper.mk _ (Op.store 67 (.tmp 17) _) _ _ _ _ :: _) _ _); (refine wpList_store_row rfl 67 (.tmp 17) (.tmp 43) rfl wr.heap.size _ X rfl rfl hZ iX zX h1X ?_); intro w5 hU5; have hb5 : Below wr.heap.size wr w5 := (Below.alloc (Below.refl wr.heap.size wr) (Nat.le_refl _) _).trans (hU5.out.below (Nat.le_refl _)); have k0 : w5.cell? ⟨wr.heap.size, 0, none⟩ = some (.string x.s) := (by rw [cell_of_block hU5.out.here]; exact hX0.out); have k39 : w5.cell? ⟨wr.heap.size, 39, none⟩ = some (.bool false) := (by rw [cell_of_block hU5.out.here]; exact hX39.out); have hb25 := Lib.hid (hbw.out.trans (hb5.mono hsz)); have z0 := Lib.hid ((hb5.block _ (block_lt y0.out)).trans y0.out); have z3 := Lib.hid ((hb5.block _ (block_lt y3.out)).trans y3.out); have rP := Lib.hid (hXP.out _ hU5.out.here); have rF := Lib.hid (hXF.out _ hU5.out.here); have qP := Lib.hid (rangeAt_of_cells (cs := p.list) (t := 59) (z := (0, 0)) (by rw [← hPP.out]; exact (hb5.block _ (block_lt y2.out)).trans y2.out)); have qF := Lib.hid (rangeAt_of_cells (cs := cB f) (t := 35) (z := (0, 0)) (by rw [← hDD.out]; exact (hb5.block _ (block_lt y1.out)).trans y1.out)); clear hb5 hU5; simp only [Act.put, List.setIfInBounds_toArray, List.set_cons_zero, List.set_cons_succ])
                | ((with_reducible show wpList _ _ _ (Oper.mk _ (Op.load 59 (.tmp 54)) _ _ _ _ :: _) _ _); refine wpList_load_midG (by kernel_rfl) 59 (.tmp 54) rfl wr.heap.size 1 rfl x.p.list _ rP.out huP rfl iXP _ hxp ?_; simp only [Act.put, List.setIfInBounds_toArray, List.set_cons_zero, List.set_cons_succ])
                | ((with_reducible show wpList _ _ _ (Oper.mk _ (Op.load 59 (.tmp 9)) _ _ _ _ :: _) _ _); refine wpList_load_midG (by kernel_rfl) 59 (.tmp 9) rfl (w.heap.size + 2) 0 rfl p.list _ qP.out huP rfl iPl _ hPP ?_; simp only [Act.put, List.setIfInBounds_toArray, List.set_cons_zero, List.set_cons_succ])
                | ((with_reducible show wpList _ _ _ (Oper.mk _ (Op.load 35 (.tmp 60)) _ _ _ _ :: _) _ _); refine wpList_load_midG (by kernel_rfl) 35 (.tmp 60) rfl wr.heap.size 7 rfl (cB x.f) _ rF.out huD rfl iXF _ hxf ?_; simp only [Act.put, List.setIfInBounds_toArray, List.set_cons_zero, List.set_cons_succ])
                | ((with_reducible show wpList _ _ _ (Oper.mk _ (Op.load 35 (.tmp 8)) _ _ _ _ :: _) _ _); refine wpList_load_midG (by kernel_rfl) 35 (.tmp 8) rfl (w.heap.size + 1) 0 rfl (cB f) _ qF.out huD rfl iDl _ hDD ?_; simp only [Act.put, List.setIfInBounds_toArray, List.set_cons_zero, List.set_cons_succ])
                | ((with_reducible show wpList _ _ _ (Oper.mk _ (Op.load 32 (.tmp 5)) _ _ _ _ :: _) _ _); refine wpList_load_row rfl 32 (.tmp 5) rfl w.heap.size CM _ rfl z0 huM rfl iM ?_; simp only [Act.put, List.setIfInBounds_toArray, List.set_cons_zero, List.set_cons_succ])
                | ((with_reducible show wpList _ _ _ (Oper.mk _ (Op.store 32 (.tmp 10) _) _ _ _ _ :: _) _ _); (refine wpList_store_row rfl 32 (.tmp 10) (.tmp 65) rfl (w.heap.size + 3) _ CM rfl rfl z3 iM hss h1M ?_); intro w9 hU9))
              refine ret_cell_tmp2 (c := CM) rfl rfl huM rfl iM hU9.out.here ?_
              rw [hRE.out]
              exact hpost.out _ _ _ ((hB3.out.trans (hb25.out.mono hB3.out.size)).trans (hU9.out.below (by omega)))
            · rw [decide_eq_false hf1] at ed
              have hno := Lib.hid (show x ≠ ⟨s, p, f, false⟩ from fun e => hf1 (by rw [e]))
              replace hs1 := Lib.hid hs1
              replace hp1 := Lib.hid hp1
              replace hf1 := Lib.hid hf1
              replace hk0 := Lib.hid hk0
              clear hhit
              go_wp2_with (first
                | ((with_reducible show wpList _ _ _ (Oper.mk _ (Op.load 67 (.tmp 42)) _ _ _ _ :: _) _ _); refine wpList_load_mid rfl 67 (.tmp 42) rfl b1 (o1 + j * 40) rfl x.list _ hr1.out huN rfl ix ?_; rw [← hX.out]; simp only [Act.put, List.setIfInBounds_toArray, List.set_cons_zero, List.set_cons_succ])
                | ((with_reducible show wpList _ _ _ (Oper.mk _ (Op.store 67 (.tmp 17) _) _ _ _ _ :: _) _ _); (refine wpList_store_row rfl 67 (.tmp 17) (.tmp 43) rfl wr.heap.size _ X rfl rfl hZ iX zX h1X ?_); intro w5 hU5; have hb5 : Below wr.heap.size wr w5 := (Below.alloc (Below.refl wr.heap.size wr) (Nat.le_refl _) _).trans (hU5.out.below (Nat.le_refl _)); have k0 : w5.cell? ⟨wr.heap.size, 0, none⟩ = some (.string x.s) := (by rw [cell_of_block hU5.out.here]; exact hX0.out); have k39 : w5.cell? ⟨wr.heap.size, 39, none⟩ = some (.bool false) := (by rw [cell_of_block hU5.out.here]; exact hX39.out); have hb25 := Lib.hid (hbw.out.trans (hb5.mono hsz)); have z0 := Lib.hid ((hb5.block _ (block_lt y0.out)).trans y0.out); have z3 := Lib.hid ((hb5.block _ (block_lt y3.out)).trans y3.out); have rP := Lib.hid (hXP.out _ hU5.out.here); have rF := Lib.hid (hXF.out _ hU5.out.here); have qP := Lib.hid (rangeAt_of_cells (cs := p.list) (t := 59) (z := (0, 0)) (by rw [← hPP.out]; exact (hb5.block _ (block_lt y2.out)).trans y2.out)); have qF := Lib.hid (rangeAt_of_cells (cs := cB f) (t := 35) (z := (0, 0)) (by rw [← hDD.out]; exact (hb5.block _ (block_lt y1.out)).trans y1.out)); clear hb5 hU5; simp only [Act.put, List.setIfInBounds_toArray, List.set_cons_zero, List.set_cons_succ])
                | ((with_reducible show wpList _ _ _ (Oper.mk _ (Op.load 59 (.tmp 54)) _ _ _ _ :: _) _ _); refine wpList_load_midG (by kernel_rfl) 59 (.tmp 54) rfl wr.heap.size 1 rfl x.p.list _ rP.out huP rfl iXP _ hxp ?_; simp only [Act.put, List.setIfInBounds_toArray, List.set_cons_zero, List.set_cons_succ])
                | ((with_reducible show wpList _ _ _ (Oper.mk _ (Op.load 59 (.tmp 9)) _ _ _ _ :: _) _ _); refine wpList_load_midG (by kernel_rfl) 59 (.tmp 9) rfl (w.heap.size + 2) 0 rfl p.list _ qP.out huP rfl iPl _ hPP ?_; simp only [Act.put, List.setIfInBounds_toArray, List.set_cons_zero, List.set_cons_succ])
                | ((with_reducible show wpList _ _ _ (Oper.mk _ (Op.load 35 (.tmp 60)) _ _ _ _ :: _) _ _); refine wpList_load_midG (by kernel_rfl) 35 (.tmp 60) rfl wr.heap.size 7 rfl (cB x.f) _ rF.out huD rfl iXF _ hxf ?_; simp only [Act.put, List.setIfInBounds_toArray, List.set_cons_zero, List.set_cons_succ])
                | ((with_reducible show wpList _ _ _ (Oper.mk _ (Op.load 35 (.tmp 8)) _ _ _ _ :: _) _ _); refine wpList_load_midG (by kernel_rfl) 35 (.tmp 8) rfl (w.heap.size + 1) 0 rfl (cB f) _ qF.out huD rfl iDl _ hDD ?_; simp only [Act.put, List.setIfInBounds_toArray, List.set_cons_zero, List.set_cons_succ]))
              refine hback.out _ _ (by kernel_rfl) ?_ ?_
              · simp only [List.getD_cons_zero, List.getD_cons_succ]
                exact ⟨j + 1, hlt, by go_num, hb25.out, hstep.out hno.out⟩
              · have h39 := h39.out
                simp only [List.getD_cons_zero, List.getD_cons_succ, h39, intOf]
                omega
          · rw [decide_eq_false hp1] at ep
            have hno := Lib.hid (show x ≠ ⟨s, p, f, false⟩ from fun e => hp1 (by rw [e]))
            replace hs1 := Lib.hid hs1
            replace hp1 := Lib.hid hp1
            replace hk0 := Lib.hid hk0
            clear hhit ed
            go_wp2_with (first
              | ((with_reducible show wpList _ _ _ (Oper.mk _ (Op.load 67 (.tmp 42)) _ _ _ _ :: _) _ _); refine wpList_load_mid rfl 67 (.tmp 42) rfl b1 (o1 + j * 40) rfl x.list _ hr1.out huN rfl ix ?_; rw [← hX.out]; simp only [Act.put, List.setIfInBounds_toArray, List.set_cons_zero, List.set_cons_succ])
              | ((with_reducible show wpList _ _ _ (Oper.mk _ (Op.store 67 (.tmp 17) _) _ _ _ _ :: _) _ _); (refine wpList_store_row rfl 67 (.tmp 17) (.tmp 43) rfl wr.heap.size _ X rfl rfl hZ iX zX h1X ?_); intro w5 hU5; have hb5 : Below wr.heap.size wr w5 := (Below.alloc (Below.refl wr.heap.size wr) (Nat.le_refl _) _).trans (hU5.out.below (Nat.le_refl _)); have k0 : w5.cell? ⟨wr.heap.size, 0, none⟩ = some (.string x.s) := (by rw [cell_of_block hU5.out.here]; exact hX0.out); have k39 : w5.cell? ⟨wr.heap.size, 39, none⟩ = some (.bool false) := (by rw [cell_of_block hU5.out.here]; exact hX39.out); have hb25 := Lib.hid (hbw.out.trans (hb5.mono hsz)); have z0 := Lib.hid ((hb5.block _ (block_lt y0.out)).trans y0.out); have z3 := Lib.hid ((hb5.block _ (block_lt y3.out)).trans y3.out); have rP := Lib.hid (hXP.out _ hU5.out.here); have rF := Lib.hid (hXF.out _ hU5.out.here); have qP := Lib.hid (rangeAt_of_cells (cs := p.list) (t := 59) (z := (0, 0)) (by rw [← hPP.out]; exact (hb5.block _ (block_lt y2.out)).trans y2.out)); have qF := Lib.hid (rangeAt_of_cells (cs := cB f) (t := 35) (z := (0, 0)) (by rw [← hDD.out]; exact (hb5.block _ (block_lt y1.out)).trans y1.out)); clear hb5 hU5; simp only [Act.put, List.setIfInBounds_toArray, List.set_cons_zero, List.set_cons_succ])
              | ((with_reducible show wpList _ _ _ (Oper.mk _ (Op.load 59 (.tmp 54)) _ _ _ _ :: _) _ _); refine wpList_load_midG (by kernel_rfl) 59 (.tmp 54) rfl wr.heap.size 1 rfl x.p.list _ rP.out huP rfl iXP _ hxp ?_; simp only [Act.put, List.setIfInBounds_toArray, List.set_cons_zero, List.set_cons_succ])
              | ((with_reducible show wpList _ _ _ (Oper.mk _ (Op.load 59 (.tmp 9)) _ _ _ _ :: _) _ _); refine wpList_load_midG (by kernel_rfl) 59 (.tmp 9) rfl (w.heap.size + 2) 0 rfl p.list _ qP.out huP rfl iPl _ hPP ?_; simp only [Act.put, List.setIfInBounds_toArray, List.set_cons_zero, List.set_cons_succ])
              | ((with_reducible show wpList _ _ _ (Oper.mk _ (Op.load 35 (.tmp 60)) _ _ _ _ :: _) _ _); refine wpList_load_midG (by kernel_rfl) 35 (.tmp 60) rfl wr.heap.size 7 rfl (cB x.f) _ rF.out huD rfl iXF _ hxf ?_; simp only [Act.put, List.setIfInBounds_toArray, List.set_cons_zero, List.set_cons_succ])
              | ((with_reducible show wpList _ _ _ (Oper.mk _ (Op.load 35 (.tmp 8)) _ _ _ _ :: _) _ _); refine wpList_load_midG (by kernel_rfl) 35 (.tmp 8) rfl (w.heap.size + 1) 0 rfl (cB f) _ qF.out huD rfl iDl _ hDD ?_; simp only [Act.put, List.setIfInBounds_toArray, List.set_cons_zero, List.set_cons_succ]))
            refine hback.out _ _ (by kernel_rfl) ?_ ?_
            · simp only [List.getD_cons_zero, List.getD_cons_succ]
              exact ⟨j + 1, hlt, by go_num, hb25.out, hstep.out hno.out⟩
            · have h39 := h39.out
              simp only [List.getD_cons_zero, List.getD_cons_succ, h39, intOf]
              omega
      · have hse : (x.s.toList == s.toList) = false := by rw [bytes_eq]; simp [hs1]
        have hno := Lib.hid (show x ≠ ⟨s, p, f, false⟩ from fun e => hs1 (by rw [e]))
        replace hs1 := Lib.hid hs1
        clear hhit ep ed
        go_wp2_with (first
          | ((with_reducible show wpList _ _ _ (Oper.mk _ (Op.load 67 (.tmp 42)) _ _ _ _ :: _) _ _); refine wpList_load_mid rfl 67 (.tmp 42) rfl b1 (o1 + j * 40) rfl x.list _ hr1.out huN rfl ix ?_; rw [← hX.out]; simp only [Act.put, List.setIfInBounds_toArray, List.set_cons_zero, List.set_cons_succ])
          | ((with_reducible show wpList _ _ _ (Oper.mk _ (Op.store 67 (.tmp 17) _) _ _ _ _ :: _) _ _); (refine wpList_store_row rfl 67 (.tmp 17) (.tmp 43) rfl wr.heap.size _ X rfl rfl hZ iX zX h1X ?_); intro w5 hU5; have hb5 : Below wr.heap.size wr w5 := (Below.alloc (Below.refl wr.heap.size wr) (Nat.le_refl _) _).trans (hU5.out.below (Nat.le_refl _)); have k0 : w5.cell? ⟨wr.heap.size, 0, none⟩ = some (.string x.s) := (by rw [cell_of_block hU5.out.here]; exact hX0.out); have k39 : w5.cell? ⟨wr.heap.size, 39, none⟩ = some (.bool x.k) := (by rw [cell_of_block hU5.out.here]; exact hX39.out); have hb25 := Lib.hid (hbw.out.trans (hb5.mono hsz)); have z0 := Lib.hid ((hb5.block _ (block_lt y0.out)).trans y0.out); have z3 := Lib.hid ((hb5.block _ (block_lt y3.out)).trans y3.out); have rP := Lib.hid (hXP.out _ hU5.out.here); have rF := Lib.hid (hXF.out _ hU5.out.here); have qP := Lib.hid (rangeAt_of_cells (cs := p.list) (t := 59) (z := (0, 0)) (by rw [← hPP.out]; exact (hb5.block _ (block_lt y2.out)).trans y2.out)); have qF := Lib.hid (rangeAt_of_cells (cs := cB f) (t := 35) (z := (0, 0)) (by rw [← hDD.out]; exact (hb5.block _ (block_lt y1.out)).trans y1.out)); clear hb5 hU5; simp only [Act.put, List.setIfInBounds_toArray, List.set_cons_zero, List.set_cons_succ])
          | ((with_reducible show wpList _ _ _ (Oper.mk _ (Op.load 59 (.tmp 54)) _ _ _ _ :: _) _ _); refine wpList_load_midG (by kernel_rfl) 59 (.tmp 54) rfl wr.heap.size 1 rfl x.p.list _ rP.out huP rfl iXP _ hxp ?_; simp only [Act.put, List.setIfInBounds_toArray, List.set_cons_zero, List.set_cons_succ])
          | ((with_reducible show wpList _ _ _ (Oper.mk _ (Op.load 59 (.tmp 9)) _ _ _ _ :: _) _ _); refine wpList_load_midG (by kernel_rfl) 59 (.tmp 9) rfl (w.heap.size + 2) 0 rfl p.list _ qP.out huP rfl iPl _ hPP ?_; simp only [Act.put, List.setIfInBounds_toArray, List.set_cons_zero, List.set_cons_succ])
          | ((with_reducible show wpList _ _ _ (Oper.mk _ (Op.load 35 (.tmp 60)) _ _ _ _ :: _) _ _); refine wpList_load_midG (by kernel_rfl) 35 (.tmp 60) rfl wr.heap.size 7 rfl (cB x.f) _ rF.out huD rfl iXF _ hxf ?_; simp only [Act.put, List.setIfInBounds_toArray, List.set_cons_zero, List.set_cons_succ])
          | ((with_reducible show wpList _ _ _ (Oper.mk _ (Op.load 35 (.tmp 8)) _ _ _ _ :: _) _ _); refine wpList_load_midG (by kernel_rfl) 35 (.tmp 8) rfl (w.heap.size + 1) 0 rfl (cB f) _ qF.out huD rfl iDl _ hDD ?_; simp only [Act.put, List.setIfInBounds_toArray, List.set_cons_zero, List.set_cons_succ]))
        refine hback.out _ _ (by kernel_rfl) ?_ ?_
        · simp only [List.getD_cons_zero, List.getD_cons_succ]
          exact ⟨j + 1, hlt, by go_num, hb25.out, hstep.out hno.out⟩
        · have h39 := h39.out
          simp only [List.getD_cons_zero, List.getD_cons_succ, h39, intOf]
          omega
    · obtain rfl : N = j := by omega
      have hRE := Lib.hid (show RES = _ from hRES.out.trans (rPut_no (fun i hi => hall.out i hi (by rw [hNl.out]; exact hi))))
      have hBw := Lib.hid (hB3.out.trans (hbw.mono hB3.out.size))
      have hNw := Lib.hid (hN3.out.below hbw (Nat.le_refl _))
      replace hbw := Lib.hid hbw
      have hbwA := hbw
      clear hback hall h39
      by_cases hla : labB s.data.toList = false
      · have hl2 := Lib.hid (fun W => show Calls Tryd.prog 33 #[.string s] W fun e w' => e = .returned (.bool false) ∧ W = w' from by have := hlb.out W; rwa [hla] at this)
        have hRE2 := Lib.hid (show RES = (m, 0, 6) by rw [hRE.out, if_pos hla])
        clear hlb hRE hla
        go_wp2_with fail
        with_reducible refine (hl2.out _).mono ?_
        rintro e w4 ⟨rfl, rfl⟩
        go_wp2_with (first
          | ((with_reducible show wpList _ _ _ (Oper.mk _ (Op.load 32 (.tmp 5)) _ _ _ _ :: _) _ _); refine wpList_load_row rfl 32 (.tmp 5) rfl w.heap.size CM _ rfl y0 huM rfl iM ?_; simp only [Act.put, List.setIfInBounds_toArray, List.set_cons_zero, List.set_cons_succ])
          | ((with_reducible show wpList _ _ _ (Oper.mk _ (Op.store 32 (.tmp 10) _) _ _ _ _ :: _) _ _); (refine wpList_store_row rfl 32 (.tmp 10) (.tmp 71) rfl (w.heap.size + 3) _ CM rfl rfl y3 iM hss h1M ?_); intro w9 hU9))
        refine ret_cell_tmp2 (c := CM) rfl rfl huM rfl iM hU9.out.here ?_
        rw [hRE2.out]
        exact hpost.out _ _ _ (hBw.out.trans (hU9.out.below (by omega)))
      have hl2 := Lib.hid (fun W => show Calls Tryd.prog 33 #[.string s] W fun e w' => e = .returned (.bool true) ∧ W = w' from by have := hlb.out W; rwa [show labB s.data.toList = true by simpa using hla] at this)
      have hREa := Lib.hid (show RES = _ from hRE.out.trans (if_neg hla))
      clear hlb hRE hla
      go_wp2_with fail
      with_reducible refine (hl2.out _).mono ?_
      rintro e w4 ⟨rfl, rfl⟩
      clear hl2
      have e00 : wr.cell? ⟨w.heap.size, 0, none⟩ = some (.slice an N cn) := by rw [cell_of_block y0.out]; exact hC0.out
      go_wp2_with fail
      clear e00
      generalize wr = wA at *
      refine wp_loopF [(false, 19), (true, 1), (false, 55), (true, 10), (false, 20)] _ [] (fun U wr => ∃ j : Nat, j ≤ N ∧ U 75 = .int .i64 (j : Nat) ∧ Below wA.heap.size wA wr ∧ ∀ i (hi : i < m.ns.length), i < j → m.ns[i].s ≠ s) (fun U _ => N - (intOf (U 75)).toNat) ?_ ?_
      · simp only [List.getD_cons_zero, List.getD_cons_succ]
        exact ⟨0, Nat.zero_le _, rfl, Below.refl _ _, fun i _ hi => absurd hi (Nat.not_lt_zero _)⟩
      · have x0 := y0
        have x3 := y3
        have x1 := y1
        have x2 := y2
        have hB3 := hBw
        have hN3 := hNw
        clear y0 y1 y2 y3 hBw hNw hbw hj
        intro U2 wr hrel KK2 hback l2' hl2'
        obtain ⟨j, hj, h75, hbw, hall⟩ := hrel
        simp only [fillS, popSeg, cond_true, cond_false, Nat.reduceAdd, h75] at hl2'
        subst hl2'
        have hsz := hbw.size
        have y0 := Lib.hid ((hbw.block _ (block_lt x0.out)).trans x0.out)
        have y1 := Lib.hid ((hbw.block _ (block_lt x1.out)).trans x1.out)
        have y2 := Lib.hid ((hbw.block _ (block_lt x2.out)).trans x2.out)
        have y3 := Lib.hid ((hbw.block _ (block_lt x3.out)).trans x3.out)
        replace h75 := Lib.hid h75
        replace hall := Lib.hid hall
        by_cases hlt : j < N
        · have hlt2 : (j : Int) < (N : Int) := by omega
          have hjN : j < m.ns.length := by rw [← hNl.out]; exact hlt
          obtain ⟨b1, o1, rfl, hr1⟩ := (hN3.out.below hbw (Nat.le_refl _)) j hjN
          have ox := okN.out _ (List.getElem_mem hjN)
          have hstep := Lib.hid (fun (e : m.ns[j].s ≠ s) => show ∀ i (hi : i < m.ns.length), i < j + 1 → m.ns[i].s ≠ s from fun i hi hij => by
            by_cases hij2 : i < j
            · exact hall.out i hi hij2
            · obtain rfl : i = j := by omega
              exact e)
          have hhit := Lib.hid (fun (e : m.ns[j].s = s) => show RES = (m, 0, 10) by rw [hREa.out]; exact if_pos (by rw [List.any_eq_true]; exact ⟨m.ns[j], List.getElem_mem hjN, by simpa using e⟩))
          generalize m.ns[j] = x at *
          obtain ⟨X, hX⟩ : ∃ X, X = x.list.toArray := ⟨_, rfl⟩
          have hX40 : X.size = 40 := by rw [hX, List.size_toArray, Nm.list_length ox.f]
          have ix : (Tryd.prog.info? 67).map (·.size) = some x.list.length := by rw [Nm.list_length ox.f]; kernel_rfl
          have iX : (Tryd.prog.info? 67).map (·.size) = some X.size := by rw [hX40]; kernel_rfl
          have zX : zNm.size = X.size := by rw [hX40]; exact zNm_size
          have h1X : X.all (·.oneCell') = true := by rw [hX]; exact Nm.all_one x
          have hX0 : X[0]? = some (.string x.s) := by rw [hX]; rfl
          have hZ := Lib.hid (heap_alloc_new wr (.cells zNm 67))
          replace hX := Lib.hid hX
          replace hX0 := Lib.hid hX0
          replace hr1 := Lib.hid hr1
          replace hbw := Lib.hid hbw
          replace ox := Lib.hid ox
          by_cases hs1 : x.s = s
          · have hse : (x.s.toList == s.toList) = true := by rw [bytes_eq]; simp [hs1]
            have hRE := Lib.hid (hhit.out hs1)
            replace hs1 := Lib.hid hs1
            clear hback hstep hhit
            go_wp2_with (first
              | ((with_reducible show wpList _ _ _ (Oper.mk _ (Op.load 67 (.tmp 77)) _ _ _ _ :: _) _ _); refine wpList_load_mid rfl 67 (.tmp 77) rfl b1 (o1 + j * 40) rfl x.list _ hr1.out huN rfl ix ?_; rw [← hX.out]; simp only [Act.put, List.setIfInBounds_toArray, List.set_cons_zero, List.set_cons_succ])
              | ((with_reducible show wpList _ _ _ (Oper.mk _ (Op.store 67 (.tmp 19) _) _ _ _ _ :: _) _ _); (refine wpList_store_row rfl 67 (.tmp 19) (.tmp 78) rfl wr.heap.size _ X rfl rfl hZ iX zX h1X ?_); intro w5 hU5; have hb5 : Below wr.heap.size wr w5 := (Below.alloc (Below.refl wr.heap.size wr) (Nat.le_refl _) _).trans (hU5.out.below (Nat.le_refl _)); have k0 : w5.cell? ⟨wr.heap.size, 0, none⟩ = some (.string x.s) := (by rw [cell_of_block hU5.out.here]; exact hX0.out); have hb25 := Lib.hid (hbw.out.trans (hb5.mono hsz)); have z0 := Lib.hid ((hb5.block _ (block_lt y0.out)).trans y0.out); have z3 := Lib.hid ((hb5.block _ (block_lt y3.out)).trans y3.out); clear hb5 hU5; simp only [Act.put, List.setIfInBounds_toArray, List.set_cons_zero, List.set_cons_succ])
              | ((with_reducible show wpList _ _ _ (Oper.mk _ (Op.load 32 (.tmp 5)) _ _ _ _ :: _) _ _); refine wpList_load_row rfl 32 (.tmp 5) rfl w.heap.size CM _ rfl z0 huM rfl iM ?_; simp only [Act.put, List.setIfInBounds_toArray, List.set_cons_zero, List.set_cons_succ])
              | ((with_reducible show wpList _ _ _ (Oper.mk _ (Op.store 32 (.tmp 10) _) _ _ _ _ :: _) _ _); (refine wpList_store_row rfl 32 (.tmp 10) (.tmp 83) rfl (w.heap.size + 3) _ CM rfl rfl z3 iM hss h1M ?_); intro w9 hU9))
            refine ret_cell_tmp2 (c := CM) rfl rfl huM rfl iM hU9.out.here ?_
            rw [hRE.out]
            exact hpost.out _ _ _ ((hB3.out.trans (hb25.out.mono hB3.out.size)).trans (hU9.out.below (by omega)))
          · have hse : (x.s.toList == s.toList) = false := by rw [bytes_eq]; simp [hs1]
            have hno := Lib.hid hs1
            replace hs1 := Lib.hid hs1
            clear hhit
            go_wp2_with (first
              | ((with_reducible show wpList _ _ _ (Oper.mk _ (Op.load 67 (.tmp 77)) _ _ _ _ :: _) _ _); refine wpList_load_mid rfl 67 (.tmp 77) rfl b1 (o1 + j * 40) rfl x.list _ hr1.out huN rfl ix ?_; rw [← hX.out]; simp only [Act.put, List.setIfInBounds_toArray, List.set_cons_zero, List.set_cons_succ])
              | ((with_reducible show wpList _ _ _ (Oper.mk _ (Op.store 67 (.tmp 19) _) _ _ _ _ :: _) _ _); (refine wpList_store_row rfl 67 (.tmp 19) (.tmp 78) rfl wr.heap.size _ X rfl rfl hZ iX zX h1X ?_); intro w5 hU5; have hb5 : Below wr.heap.size wr w5 := (Below.alloc (Below.refl wr.heap.size wr) (Nat.le_refl _) _).trans (hU5.out.below (Nat.le_refl _)); have k0 : w5.cell? ⟨wr.heap.size, 0, none⟩ = some (.string x.s) := (by rw [cell_of_block hU5.out.here]; exact hX0.out); have hb25 := Lib.hid (hbw.out.trans (hb5.mono hsz)); have z0 := Lib.hid ((hb5.block _ (block_lt y0.out)).trans y0.out); have z3 := Lib.hid ((hb5.block _ (block_lt y3.out)).trans y3.out); clear hb5 hU5; simp only [Act.put, List.setIfInBounds_toArray, List.set_cons_zero, List.set_cons_succ]))
            refine hback.out _ _ (by kernel_rfl) ?_ ?_
            · simp only [List.getD_cons_zero, List.getD_cons_succ]
              exact ⟨j + 1, hlt, by go_num, hb25.out, hstep.out hno.out⟩
            · have h75 := h75.out
              simp only [List.getD_cons_zero, List.getD_cons_succ, h75, intOf]
              omega
        · obtain rfl : N = j := by omega
          have hREb := Lib.hid (show RES = _ from hREa.out.trans (if_neg (by
            rw [List.any_eq_true]
            rintro ⟨x, hx, e⟩
            obtain ⟨i, hi, rfl⟩ := List.getElem_of_mem hx
            exact hall.out i hi (by rw [hNl.out]; exact hi) (by simpa using e))))
          have hBw := Lib.hid (hB3.out.trans (hbw.mono hB3.out.size))
          have hszA := hsz
          have hszw := Lib.hid (show w.heap.size + 4 ≤ wr.heap.size by have := hsz3.out; have := hbwA.out.size; omega)
          have e00 : wr.cell? ⟨w.heap.size, 0, none⟩ = some (.slice an N cn) := by rw [cell_of_block y0.out]; exact hC0.out
          clear hback hall h75 hbw hREa
          by_cases hfl : 4 ≤ N
          · have hfl2 : (4 : Int) ≤ (N : Int) := by omega
            have hRE := Lib.hid (show RES = (m, 0, 12) by rw [hREb.out, if_pos (by rw [← hNl.out]; exact hfl)])
            clear hREb hfl
            go_wp2_with (first
              | ((with_reducible show wpList _ _ _ (Oper.mk _ (Op.load 32 (.tmp 5)) _ _ _ _ :: _) _ _); refine wpList_load_row rfl 32 (.tmp 5) rfl w.heap.size CM _ rfl y0 huM rfl iM ?_; simp only [Act.put, List.setIfInBounds_toArray, List.set_cons_zero, List.set_cons_succ])
              | ((with_reducible show wpList _ _ _ (Oper.mk _ (Op.store 32 (.tmp 10) _) _ _ _ _ :: _) _ _); (refine wpList_store_row rfl 32 (.tmp 10) (.tmp 89) rfl (w.heap.size + 3) _ CM rfl rfl y3 iM hss h1M ?_); intro w9 hU9))
            refine ret_cell_tmp2 (c := CM) rfl rfl huM rfl iM hU9.out.here ?_
            rw [hRE.out]
            exact hpost.out _ _ _ (hBw.out.trans (hU9.out.below (by omega)))
          · have hfl2 : ¬ (4 : Int) ≤ (N : Int) := by omega
            have hlN : (N : Int) < 4 := by omega
            have hRE := Lib.hid (show RES = _ from hREb.out.trans (if_neg (by rw [← hNl.out]; exact hfl)))
            clear hREb hfl
            have hcw := Lib.hid (hcp.out wr hBw.out)
            clear hcp
            go_wp2_with ((with_reducible show wpList _ _ _ (Oper.mk _ (Op.load 32 (.tmp 5)) _ _ _ _ :: _) _ _); refine wpList_load_row rfl 32 (.tmp 5) rfl w.heap.size CM _ rfl y0 huM rfl iM ?_; simp only [Act.put, List.setIfInBounds_toArray, List.set_cons_zero, List.set_cons_succ])
            with_reducible refine hcw.out.mono ?_
            clear hcw e00
            have hB6 := hBw
            have p0 := y0
            have p2 := y1
            have p3 := y2
            have p4 := y3
            have hs6 := hszw
            have hs := hs.out
            have hf := hf.out
            clear hBw y0 y1 y2 y3 x0 x1 x2 x3 hszw hszA
            generalize wr = w6 at *
            rintro x w7 ⟨v, v', rfl, hrN, hrV, hav, hb7⟩
            obtain ⟨x4, c4, hv4, _⟩ := hrN.form
            obtain ⟨x5, c5, hv5, _⟩ := hrV.form
            subst hv4 hv5
            have hltV := Lib.hid (fun k (hk : (Value.slice x5 m.vs.length c5).ownBlock = some k) => hrV.ownLt k hk)
            have hltN := Lib.hid (fun k (hk : (Value.slice x4 m.ns.length c4).ownBlock = some k) => hrN.ownLt k hk)
            have hB7 := Lib.hid (hB6.out.trans (hb7.mono hB6.out.size))
            have hs7 := Lib.hid hb7.size
            have hG8 : Below w7.heap.size w7 (w7.alloc (.cells #[.slice x4 m.ns.length c4, .slice x5 m.vs.length c5] 32)) := (Below.refl _ _).alloc (Nat.le_refl _) _
            have hat8 := heap_alloc_new w7 (.cells #[.slice x4 m.ns.length c4, .slice x5 m.vs.length c5] 32 (0, 0))
            obtain ⟨w8, hw8⟩ : ∃ w8, w8 = w7.alloc (.cells #[.slice x4 m.ns.length c4, .slice x5 m.vs.length c5] 32) := ⟨_, rfl⟩
            rw [← hw8] at hG8
            have hat8 : w8.heap[w7.heap.size]? = some (.cells #[.slice x4 m.ns.length c4, .slice x5 m.vs.length c5] 32 (0, 0)) := by rw [hw8]; exact hat8
            have hs8 : w8.heap.size = w7.heap.size + 1 := by rw [hw8]; simp
            have hb68 : Below w6.heap.size w6 w8 := hb7.trans (hG8.mono hb7.size)
            have o0 := Lib.hid ((hb68.block _ (block_lt p0.out)).trans p0.out)
            have o2 : Hid (w8.heap[w.heap.size + 1]? = some (.cells DD 35 (0, 0))) := Lib.hid ((hb68.block _ (block_lt p2.out)).trans p2.out)
            have o3 : Hid (w8.heap[w.heap.size + 2]? = some (.cells PP 59 (0, 0))) := Lib.hid ((hb68.block _ (block_lt p3.out)).trans p3.out)
            have o4 := Lib.hid ((hb68.block _ (block_lt p4.out)).trans p4.out)
            have c80 : w8.cell? ⟨w7.heap.size, 0, none⟩ = some (.slice x4 m.ns.length c4) := by rw [cell_of_block hat8]; rfl
            have hrN8 := Lib.hid (hrN.below liesRN hG8)
            have hrV8 := Lib.hid (hrV.below liesRV hG8)
            obtain ⟨XX, hXX⟩ : ∃ XX, XX = (⟨s, p, f, false⟩ : Nm).list.toArray := ⟨_, rfl⟩
            have hXs : XX.size = 40 := by rw [hXX]; exact Nm.size (x := ⟨s, p, f, false⟩) hf
            have hbd := fun W => build_nmR ⟨s, p, f, false⟩ hf W
            simp only at hbd
            rw [← hPP.out, ← hDD.out, ← hXX] at hbd
            have hsl := fun W => slice_one (P := Tryd.prog) (t := 29) Tryd.underlying29 infoNmR (by decide) (by decide) XX hXs W
            have hyN := Lib.hid (show RN w8 (fun _ => False) ⟨s, p, f, false⟩ XX.toList from ⟨by rw [hXX], ⟨by unfold maxLen; simp only; omega, hp.out, hf⟩⟩)
            have hF0 := Lib.hid (show ∀ k : Nat, (fun _ : Nat => False) k → (fun _ : Nat => False) k from fun _ h => h)
            have hA0 := Lib.hid (show ∀ k, (Value.slice x4 m.ns.length c4).ownBlock = some k → ¬ (fun _ : Nat => False) k from fun _ _ h => h)
            have hL0 := Lib.hid (show ∀ k, (fun _ : Nat => False) k → k < w8.heap.size from fun _ h => h.elim)
            have hinfoN := Lib.hid infoNmR
            have hbs8 : w6.heap.size ≤ w8.heap.size := hb68.size
            have hln : m.ns.length ≤ 1000000 := by have := hNl.out; omega
            replace hat8 := Lib.hid hat8
            replace hbd := Lib.hid hbd
            replace hsl := Lib.hid hsl
            replace hw8 := Lib.hid hw8
            replace hG8 := Lib.hid hG8
            replace hs8 := Lib.hid hs8
            replace hXX := Lib.hid hXX
            clear hb7 hrN hrV hb68 p0 p2 p3 p4
            go_upto_region 23 with fail
            rw [← hw8.out]
            go_wp2_with (first
              | (refine wpList_load_row rfl 59 (.tmp 9) rfl (w.heap.size + 2) PP _ rfl o3 huP rfl iP ?_; simp only [Act.put, List.setIfInBounds_toArray, List.set_cons_zero, List.set_cons_succ])
              | (refine wpList_load_row rfl 35 (.tmp 8) rfl (w.heap.size + 1) DD _ rfl o2 huD rfl iD ?_; simp only [Act.put, List.setIfInBounds_toArray, List.set_cons_zero, List.set_cons_succ])
              | (refine wpList_buildV rfl 67 [(0, .tmp 94), (1, .tmp 95), (2, .tmp 96), (3, .const (.bool false))] rfl [(0, .string s), (1, .agg PP), (2, .agg DD), (3, .bool false)] rfl _ (hbd.out _) ?_; simp only [Act.put, List.setIfInBounds_toArray, List.set_cons_zero, List.set_cons_succ])
              | (refine wpList_buildS rfl 29 1 [(0, .tmp 97)] rfl [(0, .agg XX)] rfl _ _ (hsl.out _) ?_; simp only [Act.put, List.setIfInBounds_toArray, List.set_cons_zero, List.set_cons_succ])
              | (at_builtin; refine wpList_appRows (P := Tryd.prog) (R := RN) (e := 67) (size := 40) (base := w6.heap.size) (F := fun _ => False) (F' := fun _ => False) rfl liesRN (.tmp 93) (.tmp 98) 29 rfl Tryd.underlying29 104 hinfoN.out (by decide) rfl hrN8 ⟨s, p, f, false⟩ XX hyN hF0 hA0 hL0 rfl hln (by decide) hbs8 ?_; intro v9 w9 hr9 hO9 hM9; obtain ⟨a9, n9, c9, hv9⟩ : ∃ a n c, v9 = .slice a n c := (by obtain ⟨a, c, e, _⟩ := hr9.out.form; exact ⟨a, _, c, e⟩); subst hv9; have h9 := hO9.out.heap hat8.out (fun e => by have := (hltN.out _ e).2; omega); have c39 := cell_of_block h9 0; have f39 := free_of_block h9 0; have hU9 := Lib.hid ((Upd.refl h9).setCell (j := 0) (.slice a9 n9 c9)); replace h9 := Lib.hid h9))
            have hs7o := hs7.out
            have hs6o := hs6.out
            have h9X := hO9.out.heap o4.out (fun e => by have := (hltN.out _ e).1; omega)
            have aX := (hU9.out.block _ (by omega)).trans h9X
            have h90 := hO9.out.heap o0.out (fun e => by have := (hltN.out _ e).1; omega)
            have h90X := (hU9.out.block _ (by omega)).trans h90
            have hOX : Only (fun k => k = w7.heap.size) w9 _ := Only.ofUpd hU9.out rfl
            have hrVX := (hrV8.out.only liesRV hO9.out (fun k hk => hk.elim) (fun k hk e => hav k e hk)).only liesRV hOX (fun k hk => hk.elim) (fun k hk e => by have := (hltV.out k hk).2; omega)
            have hrNX := hr9.out.only liesRN hOX (fun k hk => hk.elim) (fun k hk e => by
              rcases hM9.out k hk with h | h
              · have := (hltN.out k h).2; omega
              · have := hs8.out; omega)
            have hBX := ((hB7.out.trans (hG8.out.mono hB7.out.size)).trans (hO9.out.below (B := w.heap.size) (by have := hG8.out.size; have := hB7.out.size; omega) (fun k hk => by have := (hltN.out k hk).1; omega))).trans (hU9.out.below (by omega))
            have hatX := hU9.out.here
            obtain ⟨CR, hCR⟩ : ∃ CR : Array Value, CR = #[.slice a9 n9 c9, .slice x5 m.vs.length c5] := ⟨_, rfl⟩
            have hatX2 : (w9.setCell ⟨w7.heap.size, 0, none⟩ (.slice a9 n9 c9)).heap[w7.heap.size]? = some (.cells CR 32 (0, 0)) := by rw [hCR]; exact hatX
            obtain ⟨wX, hwX⟩ : ∃ wX, wX = w9.setCell ⟨w7.heap.size, 0, none⟩ (.slice a9 n9 c9) := ⟨_, rfl⟩
            rw [← hwX] at aX h90X hrNX hrVX hBX hatX2
            rw [← hwX]
            have hd0 : Hid (Only (fun k => k = w.heap.size + 3) wX wX.drew) := Lib.hid ((Only.refl _ _).drew)
            have rlA : ∀ W : World, Only (fun k => k = w.heap.size + 3) wX W → W.heap[w7.heap.size]? = some (.cells CR 32 (0, 0)) := fun W hW => hW.heap hatX2 (by omega)
            have cX : wX.cell? ⟨w.heap.size, 0, none⟩ = some (.slice an N cn) := by rw [cell_of_block h90X]; exact hC0.out
            have hcW : ∀ W : World, Only (fun k => k = w.heap.size + 3) wX W → W.cell? ⟨w.heap.size, 0, none⟩ = some (.slice an N cn) := fun W hW => (World.cell?_of_block (a := ⟨w.heap.size, 0, none⟩) (hW.block w.heap.size (block_lt h90X) (by omega))).trans cX
            have huA : Tryd.prog.underlying 32 = _ := Tryd.underlying32
            have hzA : (Tryd.prog.info? 32).map (·.size) = some CR.size := by rw [hCR]; kernel_rfl
            have h1M : CR.all (·.oneCell') = true := by rw [hCR]; simp [Value.oneCell']
            have hss : (#[.slice none 0 0, .slice none 0 0] : Array Value).size = CR.size := by rw [hCR]; rfl
            replace aX : Hid (wX.drew.heap[w.heap.size + 3]? = some (.cells #[.slice none 0 0, .slice none 0 0] 32 (0, 0))) := Lib.hid aX
            replace hrNX := Lib.hid hrNX
            replace hrVX := Lib.hid hrVX
            replace hBX := Lib.hid hBX
            replace hwX := Lib.hid hwX
            replace hCR := Lib.hid hCR
            replace hatX2 := Lib.hid hatX2
            clear hatX hOX cX h90 h90X h9X hs7o hs6o hU9 c39 f39 c80
            refine wp_region_held_drew (S := (Only (fun k => k = w.heap.size + 3) wX)) (by kernel_rfl) hd0.out (fun hOn => ?_)
            generalize World.drew wX = wd at *
            refine wpAnyH_take (i := 0) (v := Value.agg _) (by simp only [List.getElem?_toArray, List.getElem?_cons_zero]; rfl) (by kernel_rfl) (by kernel_rfl) (by kernel_rfl) (by exact fun _ _ _ h => h) (Or.inl ⟨by rfl, fun W hSW => yields_load_row _ _ rfl _ _ _ rfl (rlA W hSW) huA rfl hzA⟩) hOn ?_
            try simp only [Act.put, List.setIfInBounds_toArray, List.set_cons_zero, List.set_cons_succ]
            refine wpAnyH_take (i := 1) (v := ?_) (by simp only [List.getElem?_toArray, List.getElem?_cons_succ, List.getElem?_cons_zero]; rfl) (by kernel_rfl) (by kernel_rfl) (by kernel_rfl) (by exact fun _ _ _ h => h) (Or.inl ⟨by rfl, ?_⟩) hOn ?_
            rotate_left
            focus (intro W hSW; go_simp; try with_reducible rfl)
            try simp only [Act.put, List.setIfInBounds_toArray, List.set_cons_zero, List.set_cons_succ]
            refine wpAnyH_take (i := 2) (v := ?_) (by simp only [List.getElem?_toArray, List.getElem?_cons_succ, List.getElem?_cons_zero]; rfl) (by kernel_rfl) (by kernel_rfl) (by kernel_rfl) (by exact fun _ _ _ h => h) (Or.inl ⟨by rfl, ?_⟩) hOn ?_
            rotate_left
            focus (intro W hSW; go_simp; try with_reducible rfl)
            try simp only [Act.put, List.setIfInBounds_toArray, List.set_cons_zero, List.set_cons_succ]
            refine wpAnyH_take (i := 3) (v := ?_) (by simp only [List.getElem?_toArray, List.getElem?_cons_succ, List.getElem?_cons_zero]; rfl) (by kernel_rfl) (by kernel_rfl) (by kernel_rfl) (by exact fun _ _ _ h => h) (Or.inl ⟨by rfl, ?_⟩) hOn ?_
            rotate_left
            focus (intro W hSW; go_simp; try with_reducible rfl)
            try simp only [Act.put, List.setIfInBounds_toArray, List.set_cons_zero, List.set_cons_succ]
            refine wpAnyH_ready (rs := [4]) (by kernel_rfl) (by simp) ?_
            refine AllReadyH.cons (by simp only [List.getElem?_toArray, List.getElem?_cons_succ, List.getElem?_cons_zero]; rfl) (fun Kz hKz => ?_) AllReadyH.nil
            rw [if_pos (by rfl)]
            (with_reducible refine wp_store_rowK 32 (.tmp 10) (.tmp 101) rfl (w.heap.size + 3) #[.slice none 0 0, .slice none 0 0] CR rfl rfl aX hzA hss h1M ?_)
            intro w10 hU10
            have hS := hOn.trans (Only.ofUpd (D := fun k => k = w.heap.size + 3) hU10.out rfl) (fun _ _ e => e)
            have hres := Lib.hid hU10.out.here
            refine hKz.out _ _ (by first | exact hS | exact Below.trans hOn (Below.mono hnew (Below.size hOn))) (fun hNext => ?_)
            clear hKz Kz hOn
            have hOn := hNext
            clear hNext
            try clear hnew
            try clear hS
            try simp only [Act.put]
            refine wpAnyH_take (i := 5) (v := ?_) (by simp only [List.getElem?_toArray, List.getElem?_cons_succ, List.getElem?_cons_zero]; rfl) (by kernel_rfl) (by kernel_rfl) (by kernel_rfl) (by exact fun _ _ _ h => h) (Or.inl ⟨by rfl, ?_⟩) hOn ?_
            rotate_left
            focus (intro W hSW; go_simp; try with_reducible rfl)
            try simp only [Act.put, List.setIfInBounds_toArray, List.set_cons_zero, List.set_cons_succ]
            refine wpAnyH_take (i := 6) (v := ?_) (by simp only [List.getElem?_toArray, List.getElem?_cons_succ, List.getElem?_cons_zero]; rfl) (by kernel_rfl) (by kernel_rfl) (by kernel_rfl) (by exact fun _ _ _ h => h) (Or.inl ⟨by rfl, ?_⟩) hOn ?_
            rotate_left
            focus (intro W hSW; go_simp; try with_reducible rfl)
            try simp only [Act.put, List.setIfInBounds_toArray, List.set_cons_zero, List.set_cons_succ]
            refine wpAnyH_done (by kernel_rfl) ?_ _
            all_goals
              go_wp2_with fail
              have hs7o := hs7.out
              have hs6o := hs6.out
              rw [hCR.out] at hres
              refine ret_cell_tmp2 (c := #[.slice a9 n9 c9, .slice x5 m.vs.length c5]) rfl rfl huA rfl (by kernel_rfl) hres.out ?_
              rw [hRE.out]
              show RNPost _ ((m.ns.length : Nat) : Int) 0 w _ _
              rw [← hNl.out]
              refine ⟨_, rfl, argM_of (hrNX.out.only liesRN hOn (fun k hk => hk.elim) (fun k hk e => by have := (hrNX.out.ownLt k hk).1; omega)) (hrVX.out.only liesRV hOn (fun k hk => hk.elim) (fun k hk e => by have := (hrVX.out.ownLt k hk).1; omega)), hBX.out.trans (hOn.below (by have := hBX.out.size; omega) (fun k e => by omega))⟩
end Go.Proofs.YtndgacjfkoliaaaDoor
