/- baileelaw34.step: an act on a model and on the document's. Printed by genmstep.py. -/
import Derived.Test.YtndgacjfkoliaaaDoorF38PlaysSaid34
import Derived.Test.YtndgacjfkoliaaaDoorF39PlaysSaid34
import Derived.Test.YtndgacjfkoliaaaDoorF4PlaysSaid34
namespace Go.Proofs.YtndgacjfkoliaaaDoor
open Go.RowKit
set_option linter.unusedSimpArgs false
set_option linter.unusedVariables false

section
variable {P : Program} {fn : Func} {Rr : Ending → World → Prop} {p p' q : Tmp} {ty ty' : TypeId}
theorem results_cells_tmp (h : fn.results = #[.cell p ty, .cell p' ty', .tmp q]) (tmps : Array Value) (w : World) :
    (results fn tmps).run P w = ((asAddr (tmps.getD p undef)).run P w).andThen fun a w₁ => ((loadVar ty a).run P w₁).andThen fun v w₂ => ((asAddr (tmps.getD p' undef)).run P w₂).andThen fun a' w₃ => ((loadVar ty' a').run P w₃).andThen fun v' w₄ => .ok (.tuple #[v, v', tmps.getD q undef]) w₄ := by
  simp [results, h, Sem.run_bind, Result.andThen]
theorem ret_cells_tmp {tmps : Array Value} {W : World} {b b' : Nat} {c c' : Array Value} {d d' : TypeDesc} (h : fn.results = #[.cell p ty, .cell p' ty', .tmp q])
    (hp : tmps.getD p undef = .pointer (some ⟨b, 0, none⟩)) (hp' : tmps.getD p' undef = .pointer (some ⟨b', 0, none⟩)) (hu : P.underlying ty = some d) (hd : (match d with | .struct _ | .array _ _ => true | _ => false) = true) (hi : (P.info? ty).map (·.size) = some c.size) (hh : W.heap[b]? = some (.cells c ty (0, 0)))
    (hu' : P.underlying ty' = some d') (hd' : (match d' with | .struct _ | .array _ _ => true | _ => false) = true) (hi' : (P.info? ty').map (·.size) = some c'.size) (hh' : W.heap[b']? = some (.cells c' ty' (0, 0))) (hR : Rr (.returned (.tuple #[.agg c, .agg c', tmps.getD q undef])) W) :
    bodyPost P fn Rr .ret ⟨tmps, []⟩ W := by
  refine bodyPost_ret (v := .tuple #[.agg c, .agg c', tmps.getD q undef]) ?_ rfl hR
  rw [results_cells_tmp h, hp, hp']
  simp [asAddr, Result.andThen, run_loadVar_row W b ty ty c (0, 0) d hh hu hd hi, run_loadVar_row W b' ty' ty' c' (0, 0) d' hh' hu' hd' hi']
end
theorem ErrIs.onlyM {ea : Nat → Addr} {w w' : World} {v : Value} {n : Nat} {D : Nat → Prop} (h : ErrIs ea w v n) (hO : Only D w w') (hd : ∀ g, D g → ∃ C T z, w.heap[g]? = some (.cells C T z) ∧ T ≠ 92) : ErrIs ea w' v n := by
  rcases h with h | h | ⟨i, g, F, V, h1, h2, h3, h4⟩
  · exact .inl h
  · exact .inr (.inl h)
  · refine .inr (.inr ⟨i, g, F, V, h1, h2, h3, (hO.block g (block_lt h4) fun e => ?_).trans h4⟩)
    obtain ⟨C, T, z, h5, h6⟩ := hd g e
    rw [h4] at h5
    injection h5 with h5
    injection h5 with _ h5 _
    exact h6 h5.symm
def StepPost (m : Md) (w : World) (e : Ending) (w' : World) : Prop := ∃ vm vw, e = .returned (.tuple #[vm, vw, .bool true]) ∧ ArgM w' vm m ∧ ArgM w' vw m ∧ Below w.heap.size w w'
set_option maxRecDepth 100000 in
set_option maxHeartbeats 4000000 in
theorem step_0 {k : Nat} {m : Md} (hI : MI k m) (hk : k ≤ 1000) (vm vw : Value) (w : World) (hm : ArgM w vm m) (hw : ArgM w vw m) (a : Ac) (ha : a.Ok) (hs : a.s.size ≤ 1000000) (hk0 : a.k = 0) (ea : Nat → Addr) (H : Errs 137 errGs w ea) :
    Calls Tryd.prog 6 #[vm, vw, .agg a.list.toArray] w (StepPost (mPut m a.s a.z a.f a.p).1 w) := by
  obtain ⟨a1, c1, a1', c1', e1⟩ := hm.shape
  obtain ⟨a2, c2, a2', c2', e2⟩ := hw.shape
  obtain ⟨C1, hC1⟩ : ∃ C1 : Array Value, C1 = #[.slice a1 m.ns.length c1, .slice a1' m.vs.length c1'] := ⟨_, rfl⟩
  obtain ⟨C2, hC2⟩ : ∃ C2 : Array Value, C2 = #[.slice a2 m.ns.length c2, .slice a2' m.vs.length c2'] := ⟨_, rfl⟩
  rw [← hC1] at e1
  rw [← hC2] at e2
  subst e1
  subst e2
  obtain ⟨AA, hAA⟩ : ∃ AA, AA = a.list.toArray := ⟨_, rfl⟩
  obtain ⟨PP, hPP⟩ : ∃ PP, PP = a.p.list.toArray := ⟨_, rfl⟩
  obtain ⟨DD, hDD⟩ : ∃ DD, DD = (cB a.f).toArray := ⟨_, rfl⟩
  obtain ⟨w2, hw2⟩ : ∃ w2, w2 = ((((w.alloc (.cells C1 28)).alloc (.cells C2 32)).alloc (.cells AA 37)).alloc (.cells #[.slice none 0 0, .slice none 0 0] 28)).alloc (.cells #[.slice none 0 0, .slice none 0 0] 32) := ⟨_, rfl⟩
  obtain ⟨b0, b1, b2, b3, b4, hs2, hB⟩ := five_allocs w _ _ _ _ _ _ _ _ _ _ w2 hw2
  have m1 := hm.below hB (Nat.le_refl _)
  have m2 := hw.below hB (Nat.le_refl _)
  have hput := mput_all hI hk (.agg C1) w2 m1 a.s a.z a.f a.p hs ha.f ha.p ea (H.below hB)
  have hrput := Lib.hid (fun W (h : ArgM W (.agg C2) m) => rput_all hI hk (.agg C2) W h a.s a.z a.f a.p hs ha.f ha.p)
  rw [← hDD, ← hPP] at hput hrput
  obtain ⟨RES, hRES⟩ : ∃ RES, RES = mPut m a.s a.z a.f a.p := ⟨_, rfl⟩
  rw [← hRES] at hput hrput ⊢
  have huM : Tryd.prog.underlying 28 = _ := Tryd.underlying28
  have huR : Tryd.prog.underlying 32 = _ := Tryd.underlying32
  have huD : Tryd.prog.underlying 35 = _ := Tryd.underlying35
  have huP : Tryd.prog.underlying 34 = _ := Tryd.underlying34
  have iC1 : (Tryd.prog.info? 28).map (·.size) = some C1.size := by rw [hC1]; kernel_rfl
  have iC2 : (Tryd.prog.info? 32).map (·.size) = some C2.size := by rw [hC2]; kernel_rfl
  have iDl : (Tryd.prog.info? 35).map (·.size) = some (cB a.f).length := by rw [cB_length, ha.f]; kernel_rfl
  have iPl : (Tryd.prog.info? 34).map (·.size) = some a.p.list.length := by kernel_rfl
  have hsub : ∀ (W : World) (o n : Nat) (cs : List Value), (a.list.drop o).take n = cs → W.heap[w.heap.size + 2]? = some (.cells AA 37 (0, 0)) → W.rangeAt (w.heap.size + 2) o cs := fun W o n cs hcs hW jj v hv => by
    rw [cell_of_block hW, hAA, List.getElem?_toArray]
    rw [← hcs, List.getElem?_take] at hv
    split at hv
    · rw [List.getElem?_drop] at hv
      exact hv
    · cases hv
  have rP := Lib.hid (fun W hW => hsub W 5 6 a.p.list (Ac.sub_p a) hW)
  have rF := Lib.hid (fun W hW => hsub W 11 32 (cB a.f) (Ac.sub_f ha.f) hW)
  have hcell := Lib.hid (fun (W : World) (hW : W.heap[w.heap.size + 2]? = some (.cells AA 37 (0, 0))) => show W.cell? ⟨w.heap.size + 2, 0, none⟩ = some (.int .i64 a.k) ∧ W.cell? ⟨w.heap.size + 2, 1, none⟩ = some (.int .i64 a.n) ∧ W.cell? ⟨w.heap.size + 2, 2, none⟩ = some (.int .i64 a.w) ∧ W.cell? ⟨w.heap.size + 2, 3, none⟩ = some (.int .i64 a.z) ∧ W.cell? ⟨w.heap.size + 2, 4, none⟩ = some (.string a.s) by
    rw [cell_of_block hW, cell_of_block hW, cell_of_block hW, cell_of_block hW, cell_of_block hW, hAA]
    exact ⟨rfl, rfl, rfl, rfl, rfl⟩)
  have t0 : (a.k == 0) = true := by simp [hk0]
  rw [← hAA]
  obtain ⟨q0, q1, q2, q3, q4⟩ := hcell.out _ b2
  obtain ⟨r0, r1, r2, r3, r4⟩ := hcell.out _ b2
  rw [hw2] at q0 q1 q2 q3 q4
  clear hsub hk0
  replace hC1 := Lib.hid hC1
  replace hC2 := Lib.hid hC2
  replace hAA := Lib.hid hAA
  replace hPP := Lib.hid hPP
  replace hDD := Lib.hid hDD
  replace hw2 := Lib.hid hw2
  replace hRES := Lib.hid hRES
  replace b0 := Lib.hid b0
  replace b1 := Lib.hid b1
  replace b2 := Lib.hid b2
  replace b3 := Lib.hid b3
  replace b4 := Lib.hid b4
  replace hs2 := Lib.hid hs2
  replace hB := Lib.hid hB
  replace m2 := Lib.hid m2
  replace hput := Lib.hid hput
  replace H := Lib.hid H
  clear m1 hm hw hI ha hs
  go_enter Tryd.func6, Tryd.ntmps6
  go_wp2_with (first
    | ((with_reducible show wpList _ _ _ (Oper.mk _ (Op.load 28 (.tmp 3)) _ _ _ _ :: _) _ _); rw [← hw2.out]; refine wpList_load_row rfl 28 (.tmp 3) rfl w.heap.size C1 _ rfl b0 huM rfl iC1 ?_; simp only [Act.put, List.setIfInBounds_toArray, List.set_cons_zero, List.set_cons_succ])
    | ((with_reducible show wpList _ _ _ (Oper.mk _ (Op.load 35 (.tmp 39)) _ _ _ _ :: _) _ _); (try rw [← hw2.out]); refine wpList_load_mid rfl 35 (.tmp 39) rfl (w.heap.size + 2) 11 rfl (cB a.f) _ (rF.out _ b2.out) huD rfl iDl ?_; rw [← hDD.out]; simp only [Act.put, List.setIfInBounds_toArray, List.set_cons_zero, List.set_cons_succ])
    | ((with_reducible show wpList _ _ _ (Oper.mk _ (Op.load 34 (.tmp 41)) _ _ _ _ :: _) _ _); (try rw [← hw2.out]); refine wpList_load_mid rfl 34 (.tmp 41) rfl (w.heap.size + 2) 5 rfl a.p.list _ (rP.out _ b2.out) huP rfl iPl ?_; rw [← hPP.out]; simp only [Act.put, List.setIfInBounds_toArray, List.set_cons_zero, List.set_cons_succ]))
  with_reducible refine hput.out.mono ?_
  clear q0 q1 q2 q3 q4 r0 r1 r2 r3 r4 hput
  rintro e w3 ⟨x1, v1, rfl, hx1, hv1, hb3⟩
  obtain ⟨a3, c3, a3', c3', e3⟩ := hx1.shape
  obtain ⟨C3, hC3⟩ : ∃ C3 : Array Value, C3 = #[.slice a3 RES.1.ns.length c3, .slice a3' RES.1.vs.length c3'] := ⟨_, rfl⟩
  rw [← hC3] at e3
  subst e3
  have iC3 : (Tryd.prog.info? 28).map (·.size) = some C3.size := by rw [hC3]; kernel_rfl
  have s3 : (#[.slice none 0 0, .slice none 0 0] : Array Value).size = C3.size := by rw [hC3]; rfl
  have o3 : C3.all (·.oneCell') = true := by rw [hC3]; simp [Value.oneCell']
  have hZ3 := Lib.hid (heap_alloc_new w3 (.cells #[.slice none 0 0, .slice none 0 0] 28))
  have hB3 := Lib.hid (hB.out.trans (hb3.mono hB.out.size))
  have d1 := Lib.hid ((hb3.block _ (block_lt b1.out)).trans b1.out)
  have d2 := Lib.hid ((hb3.block _ (block_lt b2.out)).trans b2.out)
  have d3 := Lib.hid ((hb3.block _ (block_lt b3.out)).trans b3.out)
  have d4 := Lib.hid ((hb3.block _ (block_lt b4.out)).trans b4.out)
  have m23 := Lib.hid (m2.out.below hb3 (Nat.le_refl _))
  have hs3 := Lib.hid (show w.heap.size + 5 ≤ w3.heap.size by have := hs2.out; have := hb3.size; omega)
  replace hx1 := Lib.hid hx1
  replace hv1 := Lib.hid hv1
  replace hC3 := Lib.hid hC3
  clear hb3 b0 b1 b2 b3 b4 m2 hB hs2 hw2
  go_upto_region 4 with ((with_reducible show wpList _ _ _ (Oper.mk _ (Op.store 28 (.tmp 9) _) _ _ _ _ :: _) _ _); (refine wpList_store_row rfl 28 (.tmp 9) (.tmp 44) rfl w3.heap.size _ C3 rfl rfl hZ3 iC3 s3 o3 ?_); intro w4 hU4; have hb4 : Below w3.heap.size w3 w4 := (Below.alloc (Below.refl w3.heap.size w3) (Nat.le_refl _) _).trans (hU4.out.below (Nat.le_refl _)); have aP := Lib.hid hU4.out.here; replace hb4 := Lib.hid hb4; simp only [Act.put, List.setIfInBounds_toArray, List.set_cons_zero, List.set_cons_succ])
  have hB4 := Lib.hid (hB3.out.trans (hb4.out.mono hB3.out.size))
  replace d1 := Lib.hid ((hb4.out.block _ (block_lt d1.out)).trans d1.out)
  replace d2 := Lib.hid ((hb4.out.block _ (block_lt d2.out)).trans d2.out)
  replace d3 := Lib.hid ((hb4.out.block _ (block_lt d3.out)).trans d3.out)
  replace d4 := Lib.hid ((hb4.out.block _ (block_lt d4.out)).trans d4.out)
  have m24 := Lib.hid (m23.out.below hb4.out (Nat.le_refl _))
  replace hx1 := Lib.hid (hx1.out.below hb4.out (Nat.le_refl _))
  replace hv1 := Lib.hid (hv1.out.below hb4.out)
  have hs4 := Lib.hid (show w.heap.size + 5 ≤ w4.heap.size by have := hs3.out; have := hb4.out.size; omega)
  have hrp := Lib.hid (hrput.out w4 m24.out)
  obtain ⟨q0, q1, q2, q3, q4⟩ := hcell.out _ d2.out
  clear hb4 hU4 m23 hrput hB3
  generalize w3.heap.size = bP at *
  go_wp2_with (first
    | ((with_reducible show wpList _ _ _ (Oper.mk _ (Op.load 32 (.tmp 4)) _ _ _ _ :: _) _ _); refine wpList_load_row rfl 32 (.tmp 4) rfl (w.heap.size + 1) C2 _ rfl d1 huR rfl iC2 ?_; simp only [Act.put, List.setIfInBounds_toArray, List.set_cons_zero, List.set_cons_succ])
    | ((with_reducible show wpList _ _ _ (Oper.mk _ (Op.load 35 (.tmp 53)) _ _ _ _ :: _) _ _); refine wpList_load_mid rfl 35 (.tmp 53) rfl (w.heap.size + 2) 11 rfl (cB a.f) _ (rF.out _ d2.out) huD rfl iDl ?_; rw [← hDD.out]; simp only [Act.put, List.setIfInBounds_toArray, List.set_cons_zero, List.set_cons_succ])
    | ((with_reducible show wpList _ _ _ (Oper.mk _ (Op.load 34 (.tmp 55)) _ _ _ _ :: _) _ _); refine wpList_load_mid rfl 34 (.tmp 55) rfl (w.heap.size + 2) 5 rfl a.p.list _ (rP.out _ d2.out) huP rfl iPl ?_; rw [← hPP.out]; simp only [Act.put, List.setIfInBounds_toArray, List.set_cons_zero, List.set_cons_succ]))
  with_reducible refine hrp.out.mono ?_
  clear q0 q1 q2 q3 q4 hrp
  rintro e w5 ⟨x2, rfl, hx2, hb5⟩
  obtain ⟨a4, c4, a4', c4', e4⟩ := hx2.shape
  obtain ⟨C4, hC4⟩ : ∃ C4 : Array Value, C4 = #[.slice a4 RES.1.ns.length c4, .slice a4' RES.1.vs.length c4'] := ⟨_, rfl⟩
  rw [← hC4] at e4
  subst e4
  have iC4 : (Tryd.prog.info? 32).map (·.size) = some C4.size := by rw [hC4]; kernel_rfl
  have s4 : (#[.slice none 0 0, .slice none 0 0] : Array Value).size = C4.size := by rw [hC4]; rfl
  have o4 : C4.all (·.oneCell') = true := by rw [hC4]; simp [Value.oneCell']
  have hZ5 := Lib.hid (heap_alloc_new w5 (.cells #[.slice none 0 0, .slice none 0 0] 32))
  have hB5 := Lib.hid (hB4.out.trans (hb5.mono hB4.out.size))
  replace aP := Lib.hid ((hb5.block _ (block_lt aP.out)).trans aP.out)
  replace d3 := Lib.hid ((hb5.block _ (block_lt d3.out)).trans d3.out)
  replace d4 := Lib.hid ((hb5.block _ (block_lt d4.out)).trans d4.out)
  replace hx1 := Lib.hid (hx1.out.below hb5 (Nat.le_refl _))
  replace hv1 := Lib.hid (hv1.out.below hb5)
  have hs5 := Lib.hid (show w.heap.size + 5 ≤ w5.heap.size by have := hs4.out; have := hb5.size; omega)
  replace hx2 := Lib.hid hx2
  replace hC4 := Lib.hid hC4
  clear hb5 d1 d2 m24 hB4
  go_upto_region 5 with ((with_reducible show wpList _ _ _ (Oper.mk _ (Op.store 32 (.tmp 12) _) _ _ _ _ :: _) _ _); (refine wpList_store_row rfl 32 (.tmp 12) (.tmp 58) rfl w5.heap.size _ C4 rfl rfl hZ5 iC4 s4 o4 ?_); intro w6 hU6; have hb6 : Below w5.heap.size w5 w6 := (Below.alloc (Below.refl w5.heap.size w5) (Nat.le_refl _) _).trans (hU6.out.below (Nat.le_refl _)); have aR := Lib.hid hU6.out.here; replace hb6 := Lib.hid hb6; simp only [Act.put, List.setIfInBounds_toArray, List.set_cons_zero, List.set_cons_succ])
  have hB6 := Lib.hid (hB5.out.trans (hb6.out.mono hB5.out.size))
  replace aP := Lib.hid ((hb6.out.block _ (block_lt aP.out)).trans aP.out)
  replace d3 := Lib.hid ((hb6.out.block _ (block_lt d3.out)).trans d3.out)
  replace d4 := Lib.hid ((hb6.out.block _ (block_lt d4.out)).trans d4.out)
  replace hx1 := Lib.hid (hx1.out.below hb6.out (Nat.le_refl _))
  replace hx2 := Lib.hid (hx2.out.below hb6.out (Nat.le_refl _))
  replace hv1 := Lib.hid (hv1.out.below hb6.out)
  have h5l := hs5.out
  have h4l := hs4.out
  have hbPl : Hid (w.heap.size + 5 ≤ bP) := Lib.hid (by have := hs3.out; omega)
  clear hb6 hU6 hB5
  generalize w5.heap.size = bR at *
  have hgr := Grown.drew (Grown.refl w6)
  have hd0 : Hid (Only (fun k => k = w.heap.size + 3 ∨ k = w.heap.size + 4) w6 w6.drew) := Lib.hid (Only.ofBelow hgr)
  have rlA : ∀ W : World, Only (fun k => k = w.heap.size + 3 ∨ k = w.heap.size + 4) w6 W → W.heap[bP]? = some (.cells C3 28 (0, 0)) := fun W hW => hW.heap aP.out (by have := hbPl.out; omega)
  have huA := huM
  have hzA := iC3
  have rlB : ∀ W : World, Only (fun k => k = w.heap.size + 3 ∨ k = w.heap.size + 4) w6 W → W.heap[bR]? = some (.cells C4 32 (0, 0)) := fun W hW => hW.heap aR.out (by omega)
  have huB := huR
  have hzB := iC4
  replace d3 : Hid (w6.drew.heap[w.heap.size + 3]? = some (.cells #[.slice none 0 0, .slice none 0 0] 28 (0, 0))) := Lib.hid d3.out
  replace d4 : Hid (w6.drew.heap[w.heap.size + 4]? = some (.cells #[.slice none 0 0, .slice none 0 0] 32 (0, 0))) := Lib.hid d4.out
  have y1 : Hid (ArgM w6.drew (.agg C3) RES.1) := Lib.hid (hx1.out.below hgr (Nat.le_refl _))
  have y2 : Hid (ArgM w6.drew (.agg C4) RES.1) := Lib.hid (hx2.out.below hgr (Nat.le_refl _))
  have hD6 : ∀ g, (g = w.heap.size + 3 ∨ g = w.heap.size + 4) → ∃ C T z, w6.heap[g]? = some (.cells C T z) ∧ T ≠ 92 := by
    rintro g (rfl | rfl)
    · exact ⟨_, _, _, d3.out, by decide⟩
    · exact ⟨_, _, _, d4.out, by decide⟩
  replace hD6 := Lib.hid hD6
  clear hgr h5l h4l
  refine wp_region_held_drew (S := (Only (fun k => k = w.heap.size + 3 ∨ k = w.heap.size + 4) w6)) (by kernel_rfl) hd0.out (fun hOn => ?_)
  generalize World.drew w6 = wd at *
  refine wpAnyH_take (i := 0) (v := Value.agg _) (by simp only [List.getElem?_toArray, List.getElem?_cons_zero]; rfl) (by kernel_rfl) (by kernel_rfl) (by kernel_rfl) (by exact fun _ _ _ h => h) (Or.inl ⟨by rfl, fun W hSW => yields_load_row _ _ rfl _ _ _ rfl (rlA W hSW) huA rfl hzA⟩) hOn ?_
  try simp only [Act.put, List.setIfInBounds_toArray, List.set_cons_zero, List.set_cons_succ]
  refine wpAnyH_take (i := 1) (v := Value.agg _) (by simp only [List.getElem?_toArray, List.getElem?_cons_succ, List.getElem?_cons_zero]; rfl) (by kernel_rfl) (by kernel_rfl) (by kernel_rfl) (by exact fun _ _ _ h => h) (Or.inl ⟨by rfl, fun W hSW => yields_load_row _ _ rfl _ _ _ rfl (rlB W hSW) huB rfl hzB⟩) hOn ?_
  try simp only [Act.put, List.setIfInBounds_toArray, List.set_cons_zero, List.set_cons_succ]
  refine wpAnyH_take (i := 2) (v := ?_) (by simp only [List.getElem?_toArray, List.getElem?_cons_succ, List.getElem?_cons_zero]; rfl) (by kernel_rfl) (by kernel_rfl) (by kernel_rfl) (by exact fun _ _ _ h => h) (Or.inl ⟨by rfl, ?_⟩) hOn ?_
  rotate_left
  focus (intro W hSW; go_simp; try with_reducible rfl)
  try simp only [Act.put, List.setIfInBounds_toArray, List.set_cons_zero, List.set_cons_succ]
  refine wpAnyH_take (i := 3) (v := ?_) (by simp only [List.getElem?_toArray, List.getElem?_cons_succ, List.getElem?_cons_zero]; rfl) (by kernel_rfl) (by kernel_rfl) (by kernel_rfl) (by exact fun _ _ _ h => h) (Or.inl ⟨by rfl, ?_⟩) hOn ?_
  rotate_left
  focus (intro W hSW; go_simp; try with_reducible rfl)
  try simp only [Act.put, List.setIfInBounds_toArray, List.set_cons_zero, List.set_cons_succ]
  refine wpAnyH_take (i := 4) (v := ?_) (by simp only [List.getElem?_toArray, List.getElem?_cons_succ, List.getElem?_cons_zero]; rfl) (by kernel_rfl) (by kernel_rfl) (by kernel_rfl) (by exact fun _ _ _ h => h) (Or.inl ⟨by rfl, ?_⟩) hOn ?_
  rotate_left
  focus (intro W hSW; go_simp; try with_reducible rfl)
  try simp only [Act.put, List.setIfInBounds_toArray, List.set_cons_zero, List.set_cons_succ]
  refine wpAnyH_take (i := 5) (v := ?_) (by simp only [List.getElem?_toArray, List.getElem?_cons_succ, List.getElem?_cons_zero]; rfl) (by kernel_rfl) (by kernel_rfl) (by kernel_rfl) (by exact fun _ _ _ h => h) (Or.inl ⟨by rfl, ?_⟩) hOn ?_
  rotate_left
  focus (intro W hSW; go_simp; try with_reducible rfl)
  try simp only [Act.put, List.setIfInBounds_toArray, List.set_cons_zero, List.set_cons_succ]
  refine wpAnyH_take (i := 6) (v := ?_) (by simp only [List.getElem?_toArray, List.getElem?_cons_succ, List.getElem?_cons_zero]; rfl) (by kernel_rfl) (by kernel_rfl) (by kernel_rfl) (by exact fun _ _ _ h => h) (Or.inl ⟨by rfl, ?_⟩) hOn ?_
  rotate_left
  focus (intro W hSW; go_simp; try with_reducible rfl)
  try simp only [Act.put, List.setIfInBounds_toArray, List.set_cons_zero, List.set_cons_succ]
  refine wpAnyH_take (i := 8) (v := ?_) (by simp only [List.getElem?_toArray, List.getElem?_cons_succ, List.getElem?_cons_zero]; rfl) (by kernel_rfl) (by kernel_rfl) (by kernel_rfl) (by exact fun _ _ _ h => h) (Or.inl ⟨by rfl, ?_⟩) hOn ?_
  rotate_left
  focus (intro W hSW; go_simp; try with_reducible rfl)
  try simp only [Act.put, List.setIfInBounds_toArray, List.set_cons_zero, List.set_cons_succ]
  refine wpAnyH_ready (rs := [7]) (by kernel_rfl) (by simp) ?_
  refine AllReadyH.cons (by simp only [List.getElem?_toArray, List.getElem?_cons_succ, List.getElem?_cons_zero]; rfl) (fun Kz hKz => ?_) AllReadyH.nil
  go_simp
  (with_reducible refine (num_is (hv1.out.onlyM hOn hD6.out) (H.out.below (hB6.out.trans (hOn.below (B := w.heap.size) hB6.out.size (fun k e => by omega))))).mono ?_)
  rintro e wa ⟨rfl, hnew⟩
  have hS : Only (fun k => k = w.heap.size + 3 ∨ k = w.heap.size + 4) w6 wa := Only.trans hOn (Only.ofBelow (D := fun k => k = w.heap.size + 3 ∨ k = w.heap.size + 4) hnew) (fun _ _ h => h)
  (try replace d3 := Lib.hid ((hnew.block _ (block_lt d3.out)).trans d3.out))
  (try replace d4 := Lib.hid ((hnew.block _ (block_lt d4.out)).trans d4.out))
  (try replace f3 := Lib.hid ((hnew.block _ (block_lt f3.out)).trans f3.out))
  (try replace f4 := Lib.hid ((hnew.block _ (block_lt f4.out)).trans f4.out))
  replace y1 := Lib.hid (y1.out.below hnew (Nat.le_refl _))
  replace y2 := Lib.hid (y2.out.below hnew (Nat.le_refl _))
  focus (go_wp2_with fail)
  refine hKz.out _ _ (by first | exact hS | exact Below.trans hOn (Below.mono hnew (Below.size hOn))) (fun hNext => ?_)
  clear hKz Kz hOn
  have hOn := hNext
  clear hNext
  try clear hnew
  try clear hS
  try simp only [Act.put, List.setIfInBounds_toArray, List.set_cons_zero, List.set_cons_succ]
  refine wpAnyH_take (i := 9) (v := ?_) (by simp only [List.getElem?_toArray, List.getElem?_cons_succ, List.getElem?_cons_zero]; rfl) (by kernel_rfl) (by kernel_rfl) (by kernel_rfl) (by exact fun _ _ _ h => h) (Or.inl ⟨by rfl, ?_⟩) hOn ?_
  rotate_left
  focus (intro W hSW; go_simp; try with_reducible rfl)
  try simp only [Act.put, List.setIfInBounds_toArray, List.set_cons_zero, List.set_cons_succ]
  refine wpAnyH_take (i := 10) (v := ?_) (by simp only [List.getElem?_toArray, List.getElem?_cons_succ, List.getElem?_cons_zero]; rfl) (by kernel_rfl) (by kernel_rfl) (by kernel_rfl) (by exact fun _ _ _ h => h) (Or.inl ⟨by rfl, ?_⟩) hOn ?_
  rotate_left
  focus (intro W hSW; go_simp; try with_reducible rfl)
  try simp only [Act.put, List.setIfInBounds_toArray, List.set_cons_zero, List.set_cons_succ]
  refine wpAnyH_ready (rs := [11]) (by kernel_rfl) (by simp) ?_
  refine AllReadyH.cons (by simp only [List.getElem?_toArray, List.getElem?_cons_succ, List.getElem?_cons_zero]; rfl) (fun Kz hKz => ?_) AllReadyH.nil
  rw [if_pos (by rfl)]
  (with_reducible refine wp_store_rowK 28 (.tmp 6) (.tmp 61) rfl (w.heap.size + 3) #[.slice none 0 0, .slice none 0 0] C3 rfl rfl d3 iC3 s3 o3 ?_)
  intro w8 hU8
  have hS : Only (fun k => k = w.heap.size + 3 ∨ k = w.heap.size + 4) w6 w8 := Only.trans hOn (Only.ofUpd (D := fun k => k = w.heap.size + 3 ∨ k = w.heap.size + 4) hU8.out (.inl rfl)) (fun _ _ h => h)
  have f3 := Lib.hid hU8.out.here
  (try replace d4 := Lib.hid ((hU8.out.block _ (by omega)).trans d4.out))
  (try replace f4 := Lib.hid ((hU8.out.block _ (by omega)).trans f4.out))
  replace y1 := Lib.hid (y1.out.updB d3.out hU8.out)
  replace y2 := Lib.hid (y2.out.updB d3.out hU8.out)
  refine hKz.out _ _ (by first | exact hS | exact Below.trans hOn (Below.mono hnew (Below.size hOn))) (fun hNext => ?_)
  clear hKz Kz hOn
  have hOn := hNext
  clear hNext
  try clear hnew
  try clear hS
  try simp only [Act.put]
  refine wpAnyH_ready (rs := [12]) (by kernel_rfl) (by simp) ?_
  refine AllReadyH.cons (by simp only [List.getElem?_toArray, List.getElem?_cons_succ, List.getElem?_cons_zero]; rfl) (fun Kz hKz => ?_) AllReadyH.nil
  rw [if_pos (by rfl)]
  (with_reducible refine wp_store_rowK 32 (.tmp 7) (.tmp 62) rfl (w.heap.size + 4) #[.slice none 0 0, .slice none 0 0] C4 rfl rfl d4 iC4 s4 o4 ?_)
  intro w9 hU9
  have hS : Only (fun k => k = w.heap.size + 3 ∨ k = w.heap.size + 4) w6 w9 := Only.trans hOn (Only.ofUpd (D := fun k => k = w.heap.size + 3 ∨ k = w.heap.size + 4) hU9.out (.inr rfl)) (fun _ _ h => h)
  have f4 := Lib.hid hU9.out.here
  (try replace d3 := Lib.hid ((hU9.out.block _ (by omega)).trans d3.out))
  (try replace f3 := Lib.hid ((hU9.out.block _ (by omega)).trans f3.out))
  replace y1 := Lib.hid (y1.out.updB d4.out hU9.out)
  replace y2 := Lib.hid (y2.out.updB d4.out hU9.out)
  refine hKz.out _ _ (by first | exact hS | exact Below.trans hOn (Below.mono hnew (Below.size hOn))) (fun hNext => ?_)
  clear hKz Kz hOn
  have hOn := hNext
  clear hNext
  try clear hnew
  try clear hS
  try simp only [Act.put]
  refine wpAnyH_take (i := 13) (v := ?_) (by simp only [List.getElem?_toArray, List.getElem?_cons_succ, List.getElem?_cons_zero]; rfl) (by kernel_rfl) (by kernel_rfl) (by kernel_rfl) (by exact fun _ _ _ h => h) (Or.inl ⟨by rfl, ?_⟩) hOn ?_
  rotate_left
  focus (intro W hSW; go_simp; try with_reducible rfl)
  try simp only [Act.put, List.setIfInBounds_toArray, List.set_cons_zero, List.set_cons_succ]
  refine wpAnyH_done (by kernel_rfl) ?_ _
  all_goals
    go_wp2_with fail
    refine ret_cells_tmp (c := C3) (c' := C4) rfl rfl rfl huM rfl iC3 f3.out huR rfl iC4 f4.out ?_
    exact ⟨_, _, rfl, y1.out, y2.out, hB6.out.trans (hOn.below (B := w.heap.size) hB6.out.size (fun k e => by omega))⟩

set_option maxRecDepth 100000 in
set_option maxHeartbeats 4000000 in
theorem step_1 {k : Nat} {m : Md} (hI : MI k m) (hk : k ≤ 1000) (vm vw : Value) (w : World) (hm : ArgM w vm m) (hw : ArgM w vw m) (a : Ac) (ha : a.Ok) (hs : a.s.size ≤ 1000000) (hk0 : a.k = 1) (ea : Nat → Addr) (H : Errs 137 errGs w ea) :
    Calls Tryd.prog 6 #[vm, vw, .agg a.list.toArray] w (StepPost (mKept m a.n).1 w) := by
  obtain ⟨a1, c1, a1', c1', e1⟩ := hm.shape
  obtain ⟨a2, c2, a2', c2', e2⟩ := hw.shape
  obtain ⟨C1, hC1⟩ : ∃ C1 : Array Value, C1 = #[.slice a1 m.ns.length c1, .slice a1' m.vs.length c1'] := ⟨_, rfl⟩
  obtain ⟨C2, hC2⟩ : ∃ C2 : Array Value, C2 = #[.slice a2 m.ns.length c2, .slice a2' m.vs.length c2'] := ⟨_, rfl⟩
  rw [← hC1] at e1
  rw [← hC2] at e2
  subst e1
  subst e2
  obtain ⟨AA, hAA⟩ : ∃ AA, AA = a.list.toArray := ⟨_, rfl⟩
  obtain ⟨PP, hPP⟩ : ∃ PP, PP = a.p.list.toArray := ⟨_, rfl⟩
  obtain ⟨DD, hDD⟩ : ∃ DD, DD = (cB a.f).toArray := ⟨_, rfl⟩
  obtain ⟨w2, hw2⟩ : ∃ w2, w2 = ((((w.alloc (.cells C1 28)).alloc (.cells C2 32)).alloc (.cells AA 37)).alloc (.cells #[.slice none 0 0, .slice none 0 0] 28)).alloc (.cells #[.slice none 0 0, .slice none 0 0] 32) := ⟨_, rfl⟩
  obtain ⟨b0, b1, b2, b3, b4, hs2, hB⟩ := five_allocs w _ _ _ _ _ _ _ _ _ _ w2 hw2
  have m1 := hm.below hB (Nat.le_refl _)
  have m2 := hw.below hB (Nat.le_refl _)
  have hput := mkept_all hI hk (.agg C1) w2 m1 a.n ea (H.below hB)
  have hrput := Lib.hid (fun W (h : ArgM W (.agg C2) m) => rkept_all hI hk (.agg C2) W h a.n)
  skip
  obtain ⟨RES, hRES⟩ : ∃ RES, RES = mKept m a.n := ⟨_, rfl⟩
  rw [← hRES] at hput hrput ⊢
  have huM : Tryd.prog.underlying 28 = _ := Tryd.underlying28
  have huR : Tryd.prog.underlying 32 = _ := Tryd.underlying32
  have huD : Tryd.prog.underlying 35 = _ := Tryd.underlying35
  have huP : Tryd.prog.underlying 34 = _ := Tryd.underlying34
  have iC1 : (Tryd.prog.info? 28).map (·.size) = some C1.size := by rw [hC1]; kernel_rfl
  have iC2 : (Tryd.prog.info? 32).map (·.size) = some C2.size := by rw [hC2]; kernel_rfl
  have iDl : (Tryd.prog.info? 35).map (·.size) = some (cB a.f).length := by rw [cB_length, ha.f]; kernel_rfl
  have iPl : (Tryd.prog.info? 34).map (·.size) = some a.p.list.length := by kernel_rfl
  have hsub : ∀ (W : World) (o n : Nat) (cs : List Value), (a.list.drop o).take n = cs → W.heap[w.heap.size + 2]? = some (.cells AA 37 (0, 0)) → W.rangeAt (w.heap.size + 2) o cs := fun W o n cs hcs hW jj v hv => by
    rw [cell_of_block hW, hAA, List.getElem?_toArray]
    rw [← hcs, List.getElem?_take] at hv
    split at hv
    · rw [List.getElem?_drop] at hv
      exact hv
    · cases hv
  have rP := Lib.hid (fun W hW => hsub W 5 6 a.p.list (Ac.sub_p a) hW)
  have rF := Lib.hid (fun W hW => hsub W 11 32 (cB a.f) (Ac.sub_f ha.f) hW)
  have hcell := Lib.hid (fun (W : World) (hW : W.heap[w.heap.size + 2]? = some (.cells AA 37 (0, 0))) => show W.cell? ⟨w.heap.size + 2, 0, none⟩ = some (.int .i64 a.k) ∧ W.cell? ⟨w.heap.size + 2, 1, none⟩ = some (.int .i64 a.n) ∧ W.cell? ⟨w.heap.size + 2, 2, none⟩ = some (.int .i64 a.w) ∧ W.cell? ⟨w.heap.size + 2, 3, none⟩ = some (.int .i64 a.z) ∧ W.cell? ⟨w.heap.size + 2, 4, none⟩ = some (.string a.s) by
    rw [cell_of_block hW, cell_of_block hW, cell_of_block hW, cell_of_block hW, cell_of_block hW, hAA]
    exact ⟨rfl, rfl, rfl, rfl, rfl⟩)
  have t0 : (a.k == 0) = false := by simp [hk0]
  have t1 : (a.k == 1) = true := by simp [hk0]
  rw [← hAA]
  obtain ⟨q0, q1, q2, q3, q4⟩ := hcell.out _ b2
  obtain ⟨r0, r1, r2, r3, r4⟩ := hcell.out _ b2
  rw [hw2] at q0 q1 q2 q3 q4
  clear hsub hk0
  replace hC1 := Lib.hid hC1
  replace hC2 := Lib.hid hC2
  replace hAA := Lib.hid hAA
  replace hPP := Lib.hid hPP
  replace hDD := Lib.hid hDD
  replace hw2 := Lib.hid hw2
  replace hRES := Lib.hid hRES
  replace b0 := Lib.hid b0
  replace b1 := Lib.hid b1
  replace b2 := Lib.hid b2
  replace b3 := Lib.hid b3
  replace b4 := Lib.hid b4
  replace hs2 := Lib.hid hs2
  replace hB := Lib.hid hB
  replace m2 := Lib.hid m2
  replace hput := Lib.hid hput
  replace H := Lib.hid H
  clear m1 hm hw hI ha hs
  go_enter Tryd.func6, Tryd.ntmps6
  go_wp2_with (first
    | ((with_reducible show wpList _ _ _ (Oper.mk _ (Op.load 28 (.tmp 3)) _ _ _ _ :: _) _ _); rw [← hw2.out]; refine wpList_load_row rfl 28 (.tmp 3) rfl w.heap.size C1 _ rfl b0 huM rfl iC1 ?_; simp only [Act.put, List.setIfInBounds_toArray, List.set_cons_zero, List.set_cons_succ]))
  with_reducible refine hput.out.mono ?_
  clear q0 q1 q2 q3 q4 r0 r1 r2 r3 r4 hput
  rintro e w3 ⟨x1, v1, rfl, hx1, hv1, hb3⟩
  obtain ⟨a3, c3, a3', c3', e3⟩ := hx1.shape
  obtain ⟨C3, hC3⟩ : ∃ C3 : Array Value, C3 = #[.slice a3 RES.1.ns.length c3, .slice a3' RES.1.vs.length c3'] := ⟨_, rfl⟩
  rw [← hC3] at e3
  subst e3
  have iC3 : (Tryd.prog.info? 28).map (·.size) = some C3.size := by rw [hC3]; kernel_rfl
  have s3 : (#[.slice none 0 0, .slice none 0 0] : Array Value).size = C3.size := by rw [hC3]; rfl
  have o3 : C3.all (·.oneCell') = true := by rw [hC3]; simp [Value.oneCell']
  have hZ3 := Lib.hid (heap_alloc_new w3 (.cells #[.slice none 0 0, .slice none 0 0] 28))
  have hB3 := Lib.hid (hB.out.trans (hb3.mono hB.out.size))
  have d1 := Lib.hid ((hb3.block _ (block_lt b1.out)).trans b1.out)
  have d2 := Lib.hid ((hb3.block _ (block_lt b2.out)).trans b2.out)
  have d3 := Lib.hid ((hb3.block _ (block_lt b3.out)).trans b3.out)
  have d4 := Lib.hid ((hb3.block _ (block_lt b4.out)).trans b4.out)
  have m23 := Lib.hid (m2.out.below hb3 (Nat.le_refl _))
  have hs3 := Lib.hid (show w.heap.size + 5 ≤ w3.heap.size by have := hs2.out; have := hb3.size; omega)
  replace hx1 := Lib.hid hx1
  replace hv1 := Lib.hid hv1
  replace hC3 := Lib.hid hC3
  clear hb3 b0 b1 b2 b3 b4 m2 hB hs2 hw2
  go_upto_region 8 with ((with_reducible show wpList _ _ _ (Oper.mk _ (Op.store 28 (.tmp 15) _) _ _ _ _ :: _) _ _); (refine wpList_store_row rfl 28 (.tmp 15) (.tmp 79) rfl w3.heap.size _ C3 rfl rfl hZ3 iC3 s3 o3 ?_); intro w4 hU4; have hb4 : Below w3.heap.size w3 w4 := (Below.alloc (Below.refl w3.heap.size w3) (Nat.le_refl _) _).trans (hU4.out.below (Nat.le_refl _)); have aP := Lib.hid hU4.out.here; replace hb4 := Lib.hid hb4; simp only [Act.put, List.setIfInBounds_toArray, List.set_cons_zero, List.set_cons_succ])
  have hB4 := Lib.hid (hB3.out.trans (hb4.out.mono hB3.out.size))
  replace d1 := Lib.hid ((hb4.out.block _ (block_lt d1.out)).trans d1.out)
  replace d2 := Lib.hid ((hb4.out.block _ (block_lt d2.out)).trans d2.out)
  replace d3 := Lib.hid ((hb4.out.block _ (block_lt d3.out)).trans d3.out)
  replace d4 := Lib.hid ((hb4.out.block _ (block_lt d4.out)).trans d4.out)
  have m24 := Lib.hid (m23.out.below hb4.out (Nat.le_refl _))
  replace hx1 := Lib.hid (hx1.out.below hb4.out (Nat.le_refl _))
  replace hv1 := Lib.hid (hv1.out.below hb4.out)
  have hs4 := Lib.hid (show w.heap.size + 5 ≤ w4.heap.size by have := hs3.out; have := hb4.out.size; omega)
  have hrp := Lib.hid (hrput.out w4 m24.out)
  obtain ⟨q0, q1, q2, q3, q4⟩ := hcell.out _ d2.out
  clear hb4 hU4 m23 hrput hB3
  generalize w3.heap.size = bP at *
  go_wp2_with (first
    | ((with_reducible show wpList _ _ _ (Oper.mk _ (Op.load 32 (.tmp 4)) _ _ _ _ :: _) _ _); refine wpList_load_row rfl 32 (.tmp 4) rfl (w.heap.size + 1) C2 _ rfl d1 huR rfl iC2 ?_; simp only [Act.put, List.setIfInBounds_toArray, List.set_cons_zero, List.set_cons_succ]))
  with_reducible refine hrp.out.mono ?_
  clear q0 q1 q2 q3 q4 hrp
  rintro e w5 ⟨x2, rfl, hx2, hb5⟩
  obtain ⟨a4, c4, a4', c4', e4⟩ := hx2.shape
  obtain ⟨C4, hC4⟩ : ∃ C4 : Array Value, C4 = #[.slice a4 RES.1.ns.length c4, .slice a4' RES.1.vs.length c4'] := ⟨_, rfl⟩
  rw [← hC4] at e4
  subst e4
  have iC4 : (Tryd.prog.info? 32).map (·.size) = some C4.size := by rw [hC4]; kernel_rfl
  have s4 : (#[.slice none 0 0, .slice none 0 0] : Array Value).size = C4.size := by rw [hC4]; rfl
  have o4 : C4.all (·.oneCell') = true := by rw [hC4]; simp [Value.oneCell']
  have hZ5 := Lib.hid (heap_alloc_new w5 (.cells #[.slice none 0 0, .slice none 0 0] 32))
  have hB5 := Lib.hid (hB4.out.trans (hb5.mono hB4.out.size))
  replace aP := Lib.hid ((hb5.block _ (block_lt aP.out)).trans aP.out)
  replace d3 := Lib.hid ((hb5.block _ (block_lt d3.out)).trans d3.out)
  replace d4 := Lib.hid ((hb5.block _ (block_lt d4.out)).trans d4.out)
  replace hx1 := Lib.hid (hx1.out.below hb5 (Nat.le_refl _))
  replace hv1 := Lib.hid (hv1.out.below hb5)
  have hs5 := Lib.hid (show w.heap.size + 5 ≤ w5.heap.size by have := hs4.out; have := hb5.size; omega)
  replace hx2 := Lib.hid hx2
  replace hC4 := Lib.hid hC4
  clear hb5 d1 d2 m24 hB4
  go_upto_region 9 with ((with_reducible show wpList _ _ _ (Oper.mk _ (Op.store 32 (.tmp 17) _) _ _ _ _ :: _) _ _); (refine wpList_store_row rfl 32 (.tmp 17) (.tmp 86) rfl w5.heap.size _ C4 rfl rfl hZ5 iC4 s4 o4 ?_); intro w6 hU6; have hb6 : Below w5.heap.size w5 w6 := (Below.alloc (Below.refl w5.heap.size w5) (Nat.le_refl _) _).trans (hU6.out.below (Nat.le_refl _)); have aR := Lib.hid hU6.out.here; replace hb6 := Lib.hid hb6; simp only [Act.put, List.setIfInBounds_toArray, List.set_cons_zero, List.set_cons_succ])
  have hB6 := Lib.hid (hB5.out.trans (hb6.out.mono hB5.out.size))
  replace aP := Lib.hid ((hb6.out.block _ (block_lt aP.out)).trans aP.out)
  replace d3 := Lib.hid ((hb6.out.block _ (block_lt d3.out)).trans d3.out)
  replace d4 := Lib.hid ((hb6.out.block _ (block_lt d4.out)).trans d4.out)
  replace hx1 := Lib.hid (hx1.out.below hb6.out (Nat.le_refl _))
  replace hx2 := Lib.hid (hx2.out.below hb6.out (Nat.le_refl _))
  replace hv1 := Lib.hid (hv1.out.below hb6.out)
  have h5l := hs5.out
  have h4l := hs4.out
  have hbPl : Hid (w.heap.size + 5 ≤ bP) := Lib.hid (by have := hs3.out; omega)
  clear hb6 hU6 hB5
  generalize w5.heap.size = bR at *
  have hgr := Grown.drew (Grown.refl w6)
  have hd0 : Hid (Only (fun k => k = w.heap.size + 3 ∨ k = w.heap.size + 4) w6 w6.drew) := Lib.hid (Only.ofBelow hgr)
  have rlA : ∀ W : World, Only (fun k => k = w.heap.size + 3 ∨ k = w.heap.size + 4) w6 W → W.heap[bP]? = some (.cells C3 28 (0, 0)) := fun W hW => hW.heap aP.out (by have := hbPl.out; omega)
  have huA := huM
  have hzA := iC3
  have rlB : ∀ W : World, Only (fun k => k = w.heap.size + 3 ∨ k = w.heap.size + 4) w6 W → W.heap[bR]? = some (.cells C4 32 (0, 0)) := fun W hW => hW.heap aR.out (by omega)
  have huB := huR
  have hzB := iC4
  replace d3 : Hid (w6.drew.heap[w.heap.size + 3]? = some (.cells #[.slice none 0 0, .slice none 0 0] 28 (0, 0))) := Lib.hid d3.out
  replace d4 : Hid (w6.drew.heap[w.heap.size + 4]? = some (.cells #[.slice none 0 0, .slice none 0 0] 32 (0, 0))) := Lib.hid d4.out
  have y1 : Hid (ArgM w6.drew (.agg C3) RES.1) := Lib.hid (hx1.out.below hgr (Nat.le_refl _))
  have y2 : Hid (ArgM w6.drew (.agg C4) RES.1) := Lib.hid (hx2.out.below hgr (Nat.le_refl _))
  have hD6 : ∀ g, (g = w.heap.size + 3 ∨ g = w.heap.size + 4) → ∃ C T z, w6.heap[g]? = some (.cells C T z) ∧ T ≠ 92 := by
    rintro g (rfl | rfl)
    · exact ⟨_, _, _, d3.out, by decide⟩
    · exact ⟨_, _, _, d4.out, by decide⟩
  replace hD6 := Lib.hid hD6
  clear hgr h5l h4l
  refine wp_region_held_drew (S := (Only (fun k => k = w.heap.size + 3 ∨ k = w.heap.size + 4) w6)) (by kernel_rfl) hd0.out (fun hOn => ?_)
  generalize World.drew w6 = wd at *
  refine wpAnyH_take (i := 0) (v := Value.agg _) (by simp only [List.getElem?_toArray, List.getElem?_cons_zero]; rfl) (by kernel_rfl) (by kernel_rfl) (by kernel_rfl) (by exact fun _ _ _ h => h) (Or.inl ⟨by rfl, fun W hSW => yields_load_row _ _ rfl _ _ _ rfl (rlA W hSW) huA rfl hzA⟩) hOn ?_
  try simp only [Act.put, List.setIfInBounds_toArray, List.set_cons_zero, List.set_cons_succ]
  refine wpAnyH_take (i := 1) (v := Value.agg _) (by simp only [List.getElem?_toArray, List.getElem?_cons_succ, List.getElem?_cons_zero]; rfl) (by kernel_rfl) (by kernel_rfl) (by kernel_rfl) (by exact fun _ _ _ h => h) (Or.inl ⟨by rfl, fun W hSW => yields_load_row _ _ rfl _ _ _ rfl (rlB W hSW) huB rfl hzB⟩) hOn ?_
  try simp only [Act.put, List.setIfInBounds_toArray, List.set_cons_zero, List.set_cons_succ]
  refine wpAnyH_take (i := 2) (v := ?_) (by simp only [List.getElem?_toArray, List.getElem?_cons_succ, List.getElem?_cons_zero]; rfl) (by kernel_rfl) (by kernel_rfl) (by kernel_rfl) (by exact fun _ _ _ h => h) (Or.inl ⟨by rfl, ?_⟩) hOn ?_
  rotate_left
  focus (intro W hSW; go_simp; try with_reducible rfl)
  try simp only [Act.put, List.setIfInBounds_toArray, List.set_cons_zero, List.set_cons_succ]
  refine wpAnyH_take (i := 4) (v := ?_) (by simp only [List.getElem?_toArray, List.getElem?_cons_succ, List.getElem?_cons_zero]; rfl) (by kernel_rfl) (by kernel_rfl) (by kernel_rfl) (by exact fun _ _ _ h => h) (Or.inl ⟨by rfl, ?_⟩) hOn ?_
  rotate_left
  focus (intro W hSW; go_simp; try with_reducible rfl)
  try simp only [Act.put, List.setIfInBounds_toArray, List.set_cons_zero, List.set_cons_succ]
  refine wpAnyH_ready (rs := [3]) (by kernel_rfl) (by simp) ?_
  refine AllReadyH.cons (by simp only [List.getElem?_toArray, List.getElem?_cons_succ, List.getElem?_cons_zero]; rfl) (fun Kz hKz => ?_) AllReadyH.nil
  go_simp
  (with_reducible refine (num_is (hv1.out.onlyM hOn hD6.out) (H.out.below (hB6.out.trans (hOn.below (B := w.heap.size) hB6.out.size (fun k e => by omega))))).mono ?_)
  rintro e wa ⟨rfl, hnew⟩
  have hS : Only (fun k => k = w.heap.size + 3 ∨ k = w.heap.size + 4) w6 wa := Only.trans hOn (Only.ofBelow (D := fun k => k = w.heap.size + 3 ∨ k = w.heap.size + 4) hnew) (fun _ _ h => h)
  (try replace d3 := Lib.hid ((hnew.block _ (block_lt d3.out)).trans d3.out))
  (try replace d4 := Lib.hid ((hnew.block _ (block_lt d4.out)).trans d4.out))
  (try replace f3 := Lib.hid ((hnew.block _ (block_lt f3.out)).trans f3.out))
  (try replace f4 := Lib.hid ((hnew.block _ (block_lt f4.out)).trans f4.out))
  replace y1 := Lib.hid (y1.out.below hnew (Nat.le_refl _))
  replace y2 := Lib.hid (y2.out.below hnew (Nat.le_refl _))
  focus (go_wp2_with fail)
  refine hKz.out _ _ (by first | exact hS | exact Below.trans hOn (Below.mono hnew (Below.size hOn))) (fun hNext => ?_)
  clear hKz Kz hOn
  have hOn := hNext
  clear hNext
  try clear hnew
  try clear hS
  try simp only [Act.put, List.setIfInBounds_toArray, List.set_cons_zero, List.set_cons_succ]
  refine wpAnyH_take (i := 5) (v := ?_) (by simp only [List.getElem?_toArray, List.getElem?_cons_succ, List.getElem?_cons_zero]; rfl) (by kernel_rfl) (by kernel_rfl) (by kernel_rfl) (by exact fun _ _ _ h => h) (Or.inl ⟨by rfl, ?_⟩) hOn ?_
  rotate_left
  focus (intro W hSW; go_simp; try with_reducible rfl)
  try simp only [Act.put, List.setIfInBounds_toArray, List.set_cons_zero, List.set_cons_succ]
  refine wpAnyH_ready (rs := [6]) (by kernel_rfl) (by simp) ?_
  refine AllReadyH.cons (by simp only [List.getElem?_toArray, List.getElem?_cons_succ, List.getElem?_cons_zero]; rfl) (fun Kz hKz => ?_) AllReadyH.nil
  rw [if_pos (by rfl)]
  (with_reducible refine wp_store_rowK 28 (.tmp 6) (.tmp 88) rfl (w.heap.size + 3) #[.slice none 0 0, .slice none 0 0] C3 rfl rfl d3 iC3 s3 o3 ?_)
  intro w8 hU8
  have hS : Only (fun k => k = w.heap.size + 3 ∨ k = w.heap.size + 4) w6 w8 := Only.trans hOn (Only.ofUpd (D := fun k => k = w.heap.size + 3 ∨ k = w.heap.size + 4) hU8.out (.inl rfl)) (fun _ _ h => h)
  have f3 := Lib.hid hU8.out.here
  (try replace d4 := Lib.hid ((hU8.out.block _ (by omega)).trans d4.out))
  (try replace f4 := Lib.hid ((hU8.out.block _ (by omega)).trans f4.out))
  replace y1 := Lib.hid (y1.out.updB d3.out hU8.out)
  replace y2 := Lib.hid (y2.out.updB d3.out hU8.out)
  refine hKz.out _ _ (by first | exact hS | exact Below.trans hOn (Below.mono hnew (Below.size hOn))) (fun hNext => ?_)
  clear hKz Kz hOn
  have hOn := hNext
  clear hNext
  try clear hnew
  try clear hS
  try simp only [Act.put]
  refine wpAnyH_ready (rs := [7]) (by kernel_rfl) (by simp) ?_
  refine AllReadyH.cons (by simp only [List.getElem?_toArray, List.getElem?_cons_succ, List.getElem?_cons_zero]; rfl) (fun Kz hKz => ?_) AllReadyH.nil
  rw [if_pos (by rfl)]
  (with_reducible refine wp_store_rowK 32 (.tmp 7) (.tmp 89) rfl (w.heap.size + 4) #[.slice none 0 0, .slice none 0 0] C4 rfl rfl d4 iC4 s4 o4 ?_)
  intro w9 hU9
  have hS : Only (fun k => k = w.heap.size + 3 ∨ k = w.heap.size + 4) w6 w9 := Only.trans hOn (Only.ofUpd (D := fun k => k = w.heap.size + 3 ∨ k = w.heap.size + 4) hU9.out (.inr rfl)) (fun _ _ h => h)
  have f4 := Lib.hid hU9.out.here
  (try replace d3 := Lib.hid ((hU9.out.block _ (by omega)).trans d3.out))
  (try replace f3 := Lib.hid ((hU9.out.block _ (by omega)).trans f3.out))
  replace y1 := Lib.hid (y1.out.updB d4.out hU9.out)
  replace y2 := Lib.hid (y2.out.updB d4.out hU9.out)
  refine hKz.out _ _ (by first | exact hS | exact Below.trans hOn (Below.mono hnew (Below.size hOn))) (fun hNext => ?_)
  clear hKz Kz hOn
  have hOn := hNext
  clear hNext
  try clear hnew
  try clear hS
  try simp only [Act.put]
  refine wpAnyH_take (i := 8) (v := ?_) (by simp only [List.getElem?_toArray, List.getElem?_cons_succ, List.getElem?_cons_zero]; rfl) (by kernel_rfl) (by kernel_rfl) (by kernel_rfl) (by exact fun _ _ _ h => h) (Or.inl ⟨by rfl, ?_⟩) hOn ?_
  rotate_left
  focus (intro W hSW; go_simp; try with_reducible rfl)
  try simp only [Act.put, List.setIfInBounds_toArray, List.set_cons_zero, List.set_cons_succ]
  refine wpAnyH_done (by kernel_rfl) ?_ _
  all_goals
    go_wp2_with fail
    refine ret_cells_tmp (c := C3) (c' := C4) rfl rfl rfl huM rfl iC3 f3.out huR rfl iC4 f4.out ?_
    exact ⟨_, _, rfl, y1.out, y2.out, hB6.out.trans (hOn.below (B := w.heap.size) hB6.out.size (fun k e => by omega))⟩

set_option maxRecDepth 100000 in
set_option maxHeartbeats 4000000 in
theorem step_2 {k : Nat} {m : Md} (hI : MI k m) (hk : k ≤ 1000) (vm vw : Value) (w : World) (hm : ArgM w vm m) (hw : ArgM w vw m) (a : Ac) (ha : a.Ok) (hs : a.s.size ≤ 1000000) (hk0 : a.k = 2) (ea : Nat → Addr) (H : Errs 137 errGs w ea) :
    Calls Tryd.prog 6 #[vm, vw, .agg a.list.toArray] w (StepPost (mAsked m a.n a.w).1 w) := by
  obtain ⟨a1, c1, a1', c1', e1⟩ := hm.shape
  obtain ⟨a2, c2, a2', c2', e2⟩ := hw.shape
  obtain ⟨C1, hC1⟩ : ∃ C1 : Array Value, C1 = #[.slice a1 m.ns.length c1, .slice a1' m.vs.length c1'] := ⟨_, rfl⟩
  obtain ⟨C2, hC2⟩ : ∃ C2 : Array Value, C2 = #[.slice a2 m.ns.length c2, .slice a2' m.vs.length c2'] := ⟨_, rfl⟩
  rw [← hC1] at e1
  rw [← hC2] at e2
  subst e1
  subst e2
  obtain ⟨AA, hAA⟩ : ∃ AA, AA = a.list.toArray := ⟨_, rfl⟩
  obtain ⟨PP, hPP⟩ : ∃ PP, PP = a.p.list.toArray := ⟨_, rfl⟩
  obtain ⟨DD, hDD⟩ : ∃ DD, DD = (cB a.f).toArray := ⟨_, rfl⟩
  obtain ⟨w2, hw2⟩ : ∃ w2, w2 = ((((w.alloc (.cells C1 28)).alloc (.cells C2 32)).alloc (.cells AA 37)).alloc (.cells #[.slice none 0 0, .slice none 0 0] 28)).alloc (.cells #[.slice none 0 0, .slice none 0 0] 32) := ⟨_, rfl⟩
  obtain ⟨b0, b1, b2, b3, b4, hs2, hB⟩ := five_allocs w _ _ _ _ _ _ _ _ _ _ w2 hw2
  have m1 := hm.below hB (Nat.le_refl _)
  have m2 := hw.below hB (Nat.le_refl _)
  have hput := masked_all hI hk (.agg C1) w2 m1 a.n a.w ea (H.below hB)
  have hrput := Lib.hid (fun W (h : ArgM W (.agg C2) m) => rasked_all hI hk (.agg C2) W h a.n a.w)
  skip
  obtain ⟨RES, hRES⟩ : ∃ RES, RES = mAsked m a.n a.w := ⟨_, rfl⟩
  rw [← hRES] at hput hrput ⊢
  have huM : Tryd.prog.underlying 28 = _ := Tryd.underlying28
  have huR : Tryd.prog.underlying 32 = _ := Tryd.underlying32
  have huD : Tryd.prog.underlying 35 = _ := Tryd.underlying35
  have huP : Tryd.prog.underlying 34 = _ := Tryd.underlying34
  have iC1 : (Tryd.prog.info? 28).map (·.size) = some C1.size := by rw [hC1]; kernel_rfl
  have iC2 : (Tryd.prog.info? 32).map (·.size) = some C2.size := by rw [hC2]; kernel_rfl
  have iDl : (Tryd.prog.info? 35).map (·.size) = some (cB a.f).length := by rw [cB_length, ha.f]; kernel_rfl
  have iPl : (Tryd.prog.info? 34).map (·.size) = some a.p.list.length := by kernel_rfl
  have hsub : ∀ (W : World) (o n : Nat) (cs : List Value), (a.list.drop o).take n = cs → W.heap[w.heap.size + 2]? = some (.cells AA 37 (0, 0)) → W.rangeAt (w.heap.size + 2) o cs := fun W o n cs hcs hW jj v hv => by
    rw [cell_of_block hW, hAA, List.getElem?_toArray]
    rw [← hcs, List.getElem?_take] at hv
    split at hv
    · rw [List.getElem?_drop] at hv
      exact hv
    · cases hv
  have rP := Lib.hid (fun W hW => hsub W 5 6 a.p.list (Ac.sub_p a) hW)
  have rF := Lib.hid (fun W hW => hsub W 11 32 (cB a.f) (Ac.sub_f ha.f) hW)
  have hcell := Lib.hid (fun (W : World) (hW : W.heap[w.heap.size + 2]? = some (.cells AA 37 (0, 0))) => show W.cell? ⟨w.heap.size + 2, 0, none⟩ = some (.int .i64 a.k) ∧ W.cell? ⟨w.heap.size + 2, 1, none⟩ = some (.int .i64 a.n) ∧ W.cell? ⟨w.heap.size + 2, 2, none⟩ = some (.int .i64 a.w) ∧ W.cell? ⟨w.heap.size + 2, 3, none⟩ = some (.int .i64 a.z) ∧ W.cell? ⟨w.heap.size + 2, 4, none⟩ = some (.string a.s) by
    rw [cell_of_block hW, cell_of_block hW, cell_of_block hW, cell_of_block hW, cell_of_block hW, hAA]
    exact ⟨rfl, rfl, rfl, rfl, rfl⟩)
  have t0 : (a.k == 0) = false := by simp [hk0]
  have t1 : (a.k == 1) = false := by simp [hk0]
  have t2 : (a.k == 2) = true := by simp [hk0]
  rw [← hAA]
  obtain ⟨q0, q1, q2, q3, q4⟩ := hcell.out _ b2
  obtain ⟨r0, r1, r2, r3, r4⟩ := hcell.out _ b2
  rw [hw2] at q0 q1 q2 q3 q4
  clear hsub hk0
  replace hC1 := Lib.hid hC1
  replace hC2 := Lib.hid hC2
  replace hAA := Lib.hid hAA
  replace hPP := Lib.hid hPP
  replace hDD := Lib.hid hDD
  replace hw2 := Lib.hid hw2
  replace hRES := Lib.hid hRES
  replace b0 := Lib.hid b0
  replace b1 := Lib.hid b1
  replace b2 := Lib.hid b2
  replace b3 := Lib.hid b3
  replace b4 := Lib.hid b4
  replace hs2 := Lib.hid hs2
  replace hB := Lib.hid hB
  replace m2 := Lib.hid m2
  replace hput := Lib.hid hput
  replace H := Lib.hid H
  clear m1 hm hw hI ha hs
  go_enter Tryd.func6, Tryd.ntmps6
  go_wp2_with (first
    | ((with_reducible show wpList _ _ _ (Oper.mk _ (Op.load 28 (.tmp 3)) _ _ _ _ :: _) _ _); rw [← hw2.out]; refine wpList_load_row rfl 28 (.tmp 3) rfl w.heap.size C1 _ rfl b0 huM rfl iC1 ?_; simp only [Act.put, List.setIfInBounds_toArray, List.set_cons_zero, List.set_cons_succ]))
  with_reducible refine hput.out.mono ?_
  clear q0 q1 q2 q3 q4 r0 r1 r2 r3 r4 hput
  rintro e w3 ⟨x1, v1, rfl, hx1, hv1, hb3⟩
  obtain ⟨a3, c3, a3', c3', e3⟩ := hx1.shape
  obtain ⟨C3, hC3⟩ : ∃ C3 : Array Value, C3 = #[.slice a3 RES.1.ns.length c3, .slice a3' RES.1.vs.length c3'] := ⟨_, rfl⟩
  rw [← hC3] at e3
  subst e3
  have iC3 : (Tryd.prog.info? 28).map (·.size) = some C3.size := by rw [hC3]; kernel_rfl
  have s3 : (#[.slice none 0 0, .slice none 0 0] : Array Value).size = C3.size := by rw [hC3]; rfl
  have o3 : C3.all (·.oneCell') = true := by rw [hC3]; simp [Value.oneCell']
  have hZ3 := Lib.hid (heap_alloc_new w3 (.cells #[.slice none 0 0, .slice none 0 0] 28))
  have hB3 := Lib.hid (hB.out.trans (hb3.mono hB.out.size))
  have d1 := Lib.hid ((hb3.block _ (block_lt b1.out)).trans b1.out)
  have d2 := Lib.hid ((hb3.block _ (block_lt b2.out)).trans b2.out)
  have d3 := Lib.hid ((hb3.block _ (block_lt b3.out)).trans b3.out)
  have d4 := Lib.hid ((hb3.block _ (block_lt b4.out)).trans b4.out)
  have m23 := Lib.hid (m2.out.below hb3 (Nat.le_refl _))
  have hs3 := Lib.hid (show w.heap.size + 5 ≤ w3.heap.size by have := hs2.out; have := hb3.size; omega)
  replace hx1 := Lib.hid hx1
  replace hv1 := Lib.hid hv1
  replace hC3 := Lib.hid hC3
  clear hb3 b0 b1 b2 b3 b4 m2 hB hs2 hw2
  go_upto_region 12 with ((with_reducible show wpList _ _ _ (Oper.mk _ (Op.store 28 (.tmp 19) _) _ _ _ _ :: _) _ _); (refine wpList_store_row rfl 28 (.tmp 19) (.tmp 103) rfl w3.heap.size _ C3 rfl rfl hZ3 iC3 s3 o3 ?_); intro w4 hU4; have hb4 : Below w3.heap.size w3 w4 := (Below.alloc (Below.refl w3.heap.size w3) (Nat.le_refl _) _).trans (hU4.out.below (Nat.le_refl _)); have aP := Lib.hid hU4.out.here; replace hb4 := Lib.hid hb4; simp only [Act.put, List.setIfInBounds_toArray, List.set_cons_zero, List.set_cons_succ])
  have hB4 := Lib.hid (hB3.out.trans (hb4.out.mono hB3.out.size))
  replace d1 := Lib.hid ((hb4.out.block _ (block_lt d1.out)).trans d1.out)
  replace d2 := Lib.hid ((hb4.out.block _ (block_lt d2.out)).trans d2.out)
  replace d3 := Lib.hid ((hb4.out.block _ (block_lt d3.out)).trans d3.out)
  replace d4 := Lib.hid ((hb4.out.block _ (block_lt d4.out)).trans d4.out)
  have m24 := Lib.hid (m23.out.below hb4.out (Nat.le_refl _))
  replace hx1 := Lib.hid (hx1.out.below hb4.out (Nat.le_refl _))
  replace hv1 := Lib.hid (hv1.out.below hb4.out)
  have hs4 := Lib.hid (show w.heap.size + 5 ≤ w4.heap.size by have := hs3.out; have := hb4.out.size; omega)
  have hrp := Lib.hid (hrput.out w4 m24.out)
  obtain ⟨q0, q1, q2, q3, q4⟩ := hcell.out _ d2.out
  clear hb4 hU4 m23 hrput hB3
  generalize w3.heap.size = bP at *
  go_wp2_with (first
    | ((with_reducible show wpList _ _ _ (Oper.mk _ (Op.load 32 (.tmp 4)) _ _ _ _ :: _) _ _); refine wpList_load_row rfl 32 (.tmp 4) rfl (w.heap.size + 1) C2 _ rfl d1 huR rfl iC2 ?_; simp only [Act.put, List.setIfInBounds_toArray, List.set_cons_zero, List.set_cons_succ]))
  with_reducible refine hrp.out.mono ?_
  clear q0 q1 q2 q3 q4 hrp
  rintro e w5 ⟨x2, rfl, hx2, hb5⟩
  obtain ⟨a4, c4, a4', c4', e4⟩ := hx2.shape
  obtain ⟨C4, hC4⟩ : ∃ C4 : Array Value, C4 = #[.slice a4 RES.1.ns.length c4, .slice a4' RES.1.vs.length c4'] := ⟨_, rfl⟩
  rw [← hC4] at e4
  subst e4
  have iC4 : (Tryd.prog.info? 32).map (·.size) = some C4.size := by rw [hC4]; kernel_rfl
  have s4 : (#[.slice none 0 0, .slice none 0 0] : Array Value).size = C4.size := by rw [hC4]; rfl
  have o4 : C4.all (·.oneCell') = true := by rw [hC4]; simp [Value.oneCell']
  have hZ5 := Lib.hid (heap_alloc_new w5 (.cells #[.slice none 0 0, .slice none 0 0] 32))
  have hB5 := Lib.hid (hB4.out.trans (hb5.mono hB4.out.size))
  replace aP := Lib.hid ((hb5.block _ (block_lt aP.out)).trans aP.out)
  replace d3 := Lib.hid ((hb5.block _ (block_lt d3.out)).trans d3.out)
  replace d4 := Lib.hid ((hb5.block _ (block_lt d4.out)).trans d4.out)
  replace hx1 := Lib.hid (hx1.out.below hb5 (Nat.le_refl _))
  replace hv1 := Lib.hid (hv1.out.below hb5)
  have hs5 := Lib.hid (show w.heap.size + 5 ≤ w5.heap.size by have := hs4.out; have := hb5.size; omega)
  replace hx2 := Lib.hid hx2
  replace hC4 := Lib.hid hC4
  clear hb5 d1 d2 m24 hB4
  go_upto_region 13 with ((with_reducible show wpList _ _ _ (Oper.mk _ (Op.store 32 (.tmp 22) _) _ _ _ _ :: _) _ _); (refine wpList_store_row rfl 32 (.tmp 22) (.tmp 113) rfl w5.heap.size _ C4 rfl rfl hZ5 iC4 s4 o4 ?_); intro w6 hU6; have hb6 : Below w5.heap.size w5 w6 := (Below.alloc (Below.refl w5.heap.size w5) (Nat.le_refl _) _).trans (hU6.out.below (Nat.le_refl _)); have aR := Lib.hid hU6.out.here; replace hb6 := Lib.hid hb6; simp only [Act.put, List.setIfInBounds_toArray, List.set_cons_zero, List.set_cons_succ])
  have hB6 := Lib.hid (hB5.out.trans (hb6.out.mono hB5.out.size))
  replace aP := Lib.hid ((hb6.out.block _ (block_lt aP.out)).trans aP.out)
  replace d3 := Lib.hid ((hb6.out.block _ (block_lt d3.out)).trans d3.out)
  replace d4 := Lib.hid ((hb6.out.block _ (block_lt d4.out)).trans d4.out)
  replace hx1 := Lib.hid (hx1.out.below hb6.out (Nat.le_refl _))
  replace hx2 := Lib.hid (hx2.out.below hb6.out (Nat.le_refl _))
  replace hv1 := Lib.hid (hv1.out.below hb6.out)
  have h5l := hs5.out
  have h4l := hs4.out
  have hbPl : Hid (w.heap.size + 5 ≤ bP) := Lib.hid (by have := hs3.out; omega)
  clear hb6 hU6 hB5
  generalize w5.heap.size = bR at *
  have hgr := Grown.drew (Grown.refl w6)
  have hd0 : Hid (Only (fun k => k = w.heap.size + 3 ∨ k = w.heap.size + 4) w6 w6.drew) := Lib.hid (Only.ofBelow hgr)
  have rlA : ∀ W : World, Only (fun k => k = w.heap.size + 3 ∨ k = w.heap.size + 4) w6 W → W.heap[bP]? = some (.cells C3 28 (0, 0)) := fun W hW => hW.heap aP.out (by have := hbPl.out; omega)
  have huA := huM
  have hzA := iC3
  have rlB : ∀ W : World, Only (fun k => k = w.heap.size + 3 ∨ k = w.heap.size + 4) w6 W → W.heap[bR]? = some (.cells C4 32 (0, 0)) := fun W hW => hW.heap aR.out (by omega)
  have huB := huR
  have hzB := iC4
  replace d3 : Hid (w6.drew.heap[w.heap.size + 3]? = some (.cells #[.slice none 0 0, .slice none 0 0] 28 (0, 0))) := Lib.hid d3.out
  replace d4 : Hid (w6.drew.heap[w.heap.size + 4]? = some (.cells #[.slice none 0 0, .slice none 0 0] 32 (0, 0))) := Lib.hid d4.out
  have y1 : Hid (ArgM w6.drew (.agg C3) RES.1) := Lib.hid (hx1.out.below hgr (Nat.le_refl _))
  have y2 : Hid (ArgM w6.drew (.agg C4) RES.1) := Lib.hid (hx2.out.below hgr (Nat.le_refl _))
  have hD6 : ∀ g, (g = w.heap.size + 3 ∨ g = w.heap.size + 4) → ∃ C T z, w6.heap[g]? = some (.cells C T z) ∧ T ≠ 92 := by
    rintro g (rfl | rfl)
    · exact ⟨_, _, _, d3.out, by decide⟩
    · exact ⟨_, _, _, d4.out, by decide⟩
  replace hD6 := Lib.hid hD6
  clear hgr h5l h4l
  refine wp_region_held_drew (S := (Only (fun k => k = w.heap.size + 3 ∨ k = w.heap.size + 4) w6)) (by kernel_rfl) hd0.out (fun hOn => ?_)
  generalize World.drew w6 = wd at *
  refine wpAnyH_take (i := 0) (v := Value.agg _) (by simp only [List.getElem?_toArray, List.getElem?_cons_zero]; rfl) (by kernel_rfl) (by kernel_rfl) (by kernel_rfl) (by exact fun _ _ _ h => h) (Or.inl ⟨by rfl, fun W hSW => yields_load_row _ _ rfl _ _ _ rfl (rlA W hSW) huA rfl hzA⟩) hOn ?_
  try simp only [Act.put, List.setIfInBounds_toArray, List.set_cons_zero, List.set_cons_succ]
  refine wpAnyH_take (i := 1) (v := Value.agg _) (by simp only [List.getElem?_toArray, List.getElem?_cons_succ, List.getElem?_cons_zero]; rfl) (by kernel_rfl) (by kernel_rfl) (by kernel_rfl) (by exact fun _ _ _ h => h) (Or.inl ⟨by rfl, fun W hSW => yields_load_row _ _ rfl _ _ _ rfl (rlB W hSW) huB rfl hzB⟩) hOn ?_
  try simp only [Act.put, List.setIfInBounds_toArray, List.set_cons_zero, List.set_cons_succ]
  refine wpAnyH_take (i := 2) (v := ?_) (by simp only [List.getElem?_toArray, List.getElem?_cons_succ, List.getElem?_cons_zero]; rfl) (by kernel_rfl) (by kernel_rfl) (by kernel_rfl) (by exact fun _ _ _ h => h) (Or.inl ⟨by rfl, ?_⟩) hOn ?_
  rotate_left
  focus (intro W hSW; go_simp; try with_reducible rfl)
  try simp only [Act.put, List.setIfInBounds_toArray, List.set_cons_zero, List.set_cons_succ]
  refine wpAnyH_take (i := 3) (v := ?_) (by simp only [List.getElem?_toArray, List.getElem?_cons_succ, List.getElem?_cons_zero]; rfl) (by kernel_rfl) (by kernel_rfl) (by kernel_rfl) (by exact fun _ _ _ h => h) (Or.inl ⟨by rfl, ?_⟩) hOn ?_
  rotate_left
  focus (intro W hSW; go_simp; try with_reducible rfl)
  try simp only [Act.put, List.setIfInBounds_toArray, List.set_cons_zero, List.set_cons_succ]
  refine wpAnyH_take (i := 4) (v := ?_) (by simp only [List.getElem?_toArray, List.getElem?_cons_succ, List.getElem?_cons_zero]; rfl) (by kernel_rfl) (by kernel_rfl) (by kernel_rfl) (by exact fun _ _ _ h => h) (Or.inl ⟨by rfl, ?_⟩) hOn ?_
  rotate_left
  focus (intro W hSW; go_simp; try with_reducible rfl)
  try simp only [Act.put, List.setIfInBounds_toArray, List.set_cons_zero, List.set_cons_succ]
  refine wpAnyH_take (i := 5) (v := ?_) (by simp only [List.getElem?_toArray, List.getElem?_cons_succ, List.getElem?_cons_zero]; rfl) (by kernel_rfl) (by kernel_rfl) (by kernel_rfl) (by exact fun _ _ _ h => h) (Or.inl ⟨by rfl, ?_⟩) hOn ?_
  rotate_left
  focus (intro W hSW; go_simp; try with_reducible rfl)
  try simp only [Act.put, List.setIfInBounds_toArray, List.set_cons_zero, List.set_cons_succ]
  refine wpAnyH_take (i := 6) (v := ?_) (by simp only [List.getElem?_toArray, List.getElem?_cons_succ, List.getElem?_cons_zero]; rfl) (by kernel_rfl) (by kernel_rfl) (by kernel_rfl) (by exact fun _ _ _ h => h) (Or.inl ⟨by rfl, ?_⟩) hOn ?_
  rotate_left
  focus (intro W hSW; go_simp; try with_reducible rfl)
  try simp only [Act.put, List.setIfInBounds_toArray, List.set_cons_zero, List.set_cons_succ]
  refine wpAnyH_take (i := 8) (v := ?_) (by simp only [List.getElem?_toArray, List.getElem?_cons_succ, List.getElem?_cons_zero]; rfl) (by kernel_rfl) (by kernel_rfl) (by kernel_rfl) (by exact fun _ _ _ h => h) (Or.inl ⟨by rfl, ?_⟩) hOn ?_
  rotate_left
  focus (intro W hSW; go_simp; try with_reducible rfl)
  try simp only [Act.put, List.setIfInBounds_toArray, List.set_cons_zero, List.set_cons_succ]
  refine wpAnyH_ready (rs := [7]) (by kernel_rfl) (by simp) ?_
  refine AllReadyH.cons (by simp only [List.getElem?_toArray, List.getElem?_cons_succ, List.getElem?_cons_zero]; rfl) (fun Kz hKz => ?_) AllReadyH.nil
  go_simp
  (with_reducible refine (num_is (hv1.out.onlyM hOn hD6.out) (H.out.below (hB6.out.trans (hOn.below (B := w.heap.size) hB6.out.size (fun k e => by omega))))).mono ?_)
  rintro e wa ⟨rfl, hnew⟩
  have hS : Only (fun k => k = w.heap.size + 3 ∨ k = w.heap.size + 4) w6 wa := Only.trans hOn (Only.ofBelow (D := fun k => k = w.heap.size + 3 ∨ k = w.heap.size + 4) hnew) (fun _ _ h => h)
  (try replace d3 := Lib.hid ((hnew.block _ (block_lt d3.out)).trans d3.out))
  (try replace d4 := Lib.hid ((hnew.block _ (block_lt d4.out)).trans d4.out))
  (try replace f3 := Lib.hid ((hnew.block _ (block_lt f3.out)).trans f3.out))
  (try replace f4 := Lib.hid ((hnew.block _ (block_lt f4.out)).trans f4.out))
  replace y1 := Lib.hid (y1.out.below hnew (Nat.le_refl _))
  replace y2 := Lib.hid (y2.out.below hnew (Nat.le_refl _))
  focus (go_wp2_with fail)
  refine hKz.out _ _ (by first | exact hS | exact Below.trans hOn (Below.mono hnew (Below.size hOn))) (fun hNext => ?_)
  clear hKz Kz hOn
  have hOn := hNext
  clear hNext
  try clear hnew
  try clear hS
  try simp only [Act.put, List.setIfInBounds_toArray, List.set_cons_zero, List.set_cons_succ]
  refine wpAnyH_take (i := 9) (v := ?_) (by simp only [List.getElem?_toArray, List.getElem?_cons_succ, List.getElem?_cons_zero]; rfl) (by kernel_rfl) (by kernel_rfl) (by kernel_rfl) (by exact fun _ _ _ h => h) (Or.inl ⟨by rfl, ?_⟩) hOn ?_
  rotate_left
  focus (intro W hSW; go_simp; try with_reducible rfl)
  try simp only [Act.put, List.setIfInBounds_toArray, List.set_cons_zero, List.set_cons_succ]
  refine wpAnyH_take (i := 10) (v := ?_) (by simp only [List.getElem?_toArray, List.getElem?_cons_succ, List.getElem?_cons_zero]; rfl) (by kernel_rfl) (by kernel_rfl) (by kernel_rfl) (by exact fun _ _ _ h => h) (Or.inl ⟨by rfl, ?_⟩) hOn ?_
  rotate_left
  focus (intro W hSW; go_simp; try with_reducible rfl)
  try simp only [Act.put, List.setIfInBounds_toArray, List.set_cons_zero, List.set_cons_succ]
  refine wpAnyH_ready (rs := [11]) (by kernel_rfl) (by simp) ?_
  refine AllReadyH.cons (by simp only [List.getElem?_toArray, List.getElem?_cons_succ, List.getElem?_cons_zero]; rfl) (fun Kz hKz => ?_) AllReadyH.nil
  rw [if_pos (by rfl)]
  (with_reducible refine wp_store_rowK 28 (.tmp 6) (.tmp 116) rfl (w.heap.size + 3) #[.slice none 0 0, .slice none 0 0] C3 rfl rfl d3 iC3 s3 o3 ?_)
  intro w8 hU8
  have hS : Only (fun k => k = w.heap.size + 3 ∨ k = w.heap.size + 4) w6 w8 := Only.trans hOn (Only.ofUpd (D := fun k => k = w.heap.size + 3 ∨ k = w.heap.size + 4) hU8.out (.inl rfl)) (fun _ _ h => h)
  have f3 := Lib.hid hU8.out.here
  (try replace d4 := Lib.hid ((hU8.out.block _ (by omega)).trans d4.out))
  (try replace f4 := Lib.hid ((hU8.out.block _ (by omega)).trans f4.out))
  replace y1 := Lib.hid (y1.out.updB d3.out hU8.out)
  replace y2 := Lib.hid (y2.out.updB d3.out hU8.out)
  refine hKz.out _ _ (by first | exact hS | exact Below.trans hOn (Below.mono hnew (Below.size hOn))) (fun hNext => ?_)
  clear hKz Kz hOn
  have hOn := hNext
  clear hNext
  try clear hnew
  try clear hS
  try simp only [Act.put]
  refine wpAnyH_ready (rs := [12]) (by kernel_rfl) (by simp) ?_
  refine AllReadyH.cons (by simp only [List.getElem?_toArray, List.getElem?_cons_succ, List.getElem?_cons_zero]; rfl) (fun Kz hKz => ?_) AllReadyH.nil
  rw [if_pos (by rfl)]
  (with_reducible refine wp_store_rowK 32 (.tmp 7) (.tmp 117) rfl (w.heap.size + 4) #[.slice none 0 0, .slice none 0 0] C4 rfl rfl d4 iC4 s4 o4 ?_)
  intro w9 hU9
  have hS : Only (fun k => k = w.heap.size + 3 ∨ k = w.heap.size + 4) w6 w9 := Only.trans hOn (Only.ofUpd (D := fun k => k = w.heap.size + 3 ∨ k = w.heap.size + 4) hU9.out (.inr rfl)) (fun _ _ h => h)
  have f4 := Lib.hid hU9.out.here
  (try replace d3 := Lib.hid ((hU9.out.block _ (by omega)).trans d3.out))
  (try replace f3 := Lib.hid ((hU9.out.block _ (by omega)).trans f3.out))
  replace y1 := Lib.hid (y1.out.updB d4.out hU9.out)
  replace y2 := Lib.hid (y2.out.updB d4.out hU9.out)
  refine hKz.out _ _ (by first | exact hS | exact Below.trans hOn (Below.mono hnew (Below.size hOn))) (fun hNext => ?_)
  clear hKz Kz hOn
  have hOn := hNext
  clear hNext
  try clear hnew
  try clear hS
  try simp only [Act.put]
  refine wpAnyH_take (i := 13) (v := ?_) (by simp only [List.getElem?_toArray, List.getElem?_cons_succ, List.getElem?_cons_zero]; rfl) (by kernel_rfl) (by kernel_rfl) (by kernel_rfl) (by exact fun _ _ _ h => h) (Or.inl ⟨by rfl, ?_⟩) hOn ?_
  rotate_left
  focus (intro W hSW; go_simp; try with_reducible rfl)
  try simp only [Act.put, List.setIfInBounds_toArray, List.set_cons_zero, List.set_cons_succ]
  refine wpAnyH_done (by kernel_rfl) ?_ _
  all_goals
    go_wp2_with fail
    refine ret_cells_tmp (c := C3) (c' := C4) rfl rfl rfl huM rfl iC3 f3.out huR rfl iC4 f4.out ?_
    exact ⟨_, _, rfl, y1.out, y2.out, hB6.out.trans (hOn.below (B := w.heap.size) hB6.out.size (fun k e => by omega))⟩

set_option maxRecDepth 100000 in
set_option maxHeartbeats 4000000 in
theorem step_3 {k : Nat} {m : Md} (hI : MI k m) (hk : k ≤ 1000) (vm vw : Value) (w : World) (hm : ArgM w vm m) (hw : ArgM w vw m) (a : Ac) (ha : a.Ok) (hs : a.s.size ≤ 1000000) (hk0 : a.k ≠ 0) (hk1 : a.k ≠ 1) (hk2 : a.k ≠ 2) (ea : Nat → Addr) (H : Errs 137 errGs w ea) :
    Calls Tryd.prog 6 #[vm, vw, .agg a.list.toArray] w (StepPost (mJudged m a.n a.w).1 w) := by
  obtain ⟨a1, c1, a1', c1', e1⟩ := hm.shape
  obtain ⟨a2, c2, a2', c2', e2⟩ := hw.shape
  obtain ⟨C1, hC1⟩ : ∃ C1 : Array Value, C1 = #[.slice a1 m.ns.length c1, .slice a1' m.vs.length c1'] := ⟨_, rfl⟩
  obtain ⟨C2, hC2⟩ : ∃ C2 : Array Value, C2 = #[.slice a2 m.ns.length c2, .slice a2' m.vs.length c2'] := ⟨_, rfl⟩
  rw [← hC1] at e1
  rw [← hC2] at e2
  subst e1
  subst e2
  obtain ⟨AA, hAA⟩ : ∃ AA, AA = a.list.toArray := ⟨_, rfl⟩
  obtain ⟨PP, hPP⟩ : ∃ PP, PP = a.p.list.toArray := ⟨_, rfl⟩
  obtain ⟨DD, hDD⟩ : ∃ DD, DD = (cB a.f).toArray := ⟨_, rfl⟩
  obtain ⟨w2, hw2⟩ : ∃ w2, w2 = ((((w.alloc (.cells C1 28)).alloc (.cells C2 32)).alloc (.cells AA 37)).alloc (.cells #[.slice none 0 0, .slice none 0 0] 28)).alloc (.cells #[.slice none 0 0, .slice none 0 0] 32) := ⟨_, rfl⟩
  obtain ⟨b0, b1, b2, b3, b4, hs2, hB⟩ := five_allocs w _ _ _ _ _ _ _ _ _ _ w2 hw2
  have m1 := hm.below hB (Nat.le_refl _)
  have m2 := hw.below hB (Nat.le_refl _)
  have hput := mjudged_all hI hk (.agg C1) w2 m1 a.n a.w ha.w ea (H.below hB)
  have hrput := Lib.hid (fun W (h : ArgM W (.agg C2) m) => rjudged_all hI hk (.agg C2) W h a.n a.w ha.w)
  skip
  obtain ⟨RES, hRES⟩ : ∃ RES, RES = mJudged m a.n a.w := ⟨_, rfl⟩
  rw [← hRES] at hput hrput ⊢
  have huM : Tryd.prog.underlying 28 = _ := Tryd.underlying28
  have huR : Tryd.prog.underlying 32 = _ := Tryd.underlying32
  have huD : Tryd.prog.underlying 35 = _ := Tryd.underlying35
  have huP : Tryd.prog.underlying 34 = _ := Tryd.underlying34
  have iC1 : (Tryd.prog.info? 28).map (·.size) = some C1.size := by rw [hC1]; kernel_rfl
  have iC2 : (Tryd.prog.info? 32).map (·.size) = some C2.size := by rw [hC2]; kernel_rfl
  have iDl : (Tryd.prog.info? 35).map (·.size) = some (cB a.f).length := by rw [cB_length, ha.f]; kernel_rfl
  have iPl : (Tryd.prog.info? 34).map (·.size) = some a.p.list.length := by kernel_rfl
  have hsub : ∀ (W : World) (o n : Nat) (cs : List Value), (a.list.drop o).take n = cs → W.heap[w.heap.size + 2]? = some (.cells AA 37 (0, 0)) → W.rangeAt (w.heap.size + 2) o cs := fun W o n cs hcs hW jj v hv => by
    rw [cell_of_block hW, hAA, List.getElem?_toArray]
    rw [← hcs, List.getElem?_take] at hv
    split at hv
    · rw [List.getElem?_drop] at hv
      exact hv
    · cases hv
  have rP := Lib.hid (fun W hW => hsub W 5 6 a.p.list (Ac.sub_p a) hW)
  have rF := Lib.hid (fun W hW => hsub W 11 32 (cB a.f) (Ac.sub_f ha.f) hW)
  have hcell := Lib.hid (fun (W : World) (hW : W.heap[w.heap.size + 2]? = some (.cells AA 37 (0, 0))) => show W.cell? ⟨w.heap.size + 2, 0, none⟩ = some (.int .i64 a.k) ∧ W.cell? ⟨w.heap.size + 2, 1, none⟩ = some (.int .i64 a.n) ∧ W.cell? ⟨w.heap.size + 2, 2, none⟩ = some (.int .i64 a.w) ∧ W.cell? ⟨w.heap.size + 2, 3, none⟩ = some (.int .i64 a.z) ∧ W.cell? ⟨w.heap.size + 2, 4, none⟩ = some (.string a.s) by
    rw [cell_of_block hW, cell_of_block hW, cell_of_block hW, cell_of_block hW, cell_of_block hW, hAA]
    exact ⟨rfl, rfl, rfl, rfl, rfl⟩)
  have t0 : (a.k == 0) = false := by simpa using hk0
  have t1 : (a.k == 1) = false := by simpa using hk1
  have t2 : (a.k == 2) = false := by simpa using hk2
  rw [← hAA]
  obtain ⟨q0, q1, q2, q3, q4⟩ := hcell.out _ b2
  obtain ⟨r0, r1, r2, r3, r4⟩ := hcell.out _ b2
  rw [hw2] at q0 q1 q2 q3 q4
  clear hsub hk0 hk1 hk2
  replace hC1 := Lib.hid hC1
  replace hC2 := Lib.hid hC2
  replace hAA := Lib.hid hAA
  replace hPP := Lib.hid hPP
  replace hDD := Lib.hid hDD
  replace hw2 := Lib.hid hw2
  replace hRES := Lib.hid hRES
  replace b0 := Lib.hid b0
  replace b1 := Lib.hid b1
  replace b2 := Lib.hid b2
  replace b3 := Lib.hid b3
  replace b4 := Lib.hid b4
  replace hs2 := Lib.hid hs2
  replace hB := Lib.hid hB
  replace m2 := Lib.hid m2
  replace hput := Lib.hid hput
  replace H := Lib.hid H
  clear m1 hm hw hI ha hs
  go_enter Tryd.func6, Tryd.ntmps6
  go_wp2_with (first
    | ((with_reducible show wpList _ _ _ (Oper.mk _ (Op.load 28 (.tmp 3)) _ _ _ _ :: _) _ _); rw [← hw2.out]; refine wpList_load_row rfl 28 (.tmp 3) rfl w.heap.size C1 _ rfl b0 huM rfl iC1 ?_; simp only [Act.put, List.setIfInBounds_toArray, List.set_cons_zero, List.set_cons_succ]))
  with_reducible refine hput.out.mono ?_
  clear q0 q1 q2 q3 q4 r0 r1 r2 r3 r4 hput
  rintro e w3 ⟨x1, v1, rfl, hx1, hv1, hb3⟩
  obtain ⟨a3, c3, a3', c3', e3⟩ := hx1.shape
  obtain ⟨C3, hC3⟩ : ∃ C3 : Array Value, C3 = #[.slice a3 RES.1.ns.length c3, .slice a3' RES.1.vs.length c3'] := ⟨_, rfl⟩
  rw [← hC3] at e3
  subst e3
  have iC3 : (Tryd.prog.info? 28).map (·.size) = some C3.size := by rw [hC3]; kernel_rfl
  have s3 : (#[.slice none 0 0, .slice none 0 0] : Array Value).size = C3.size := by rw [hC3]; rfl
  have o3 : C3.all (·.oneCell') = true := by rw [hC3]; simp [Value.oneCell']
  have hZ3 := Lib.hid (heap_alloc_new w3 (.cells #[.slice none 0 0, .slice none 0 0] 28))
  have hB3 := Lib.hid (hB.out.trans (hb3.mono hB.out.size))
  have d1 := Lib.hid ((hb3.block _ (block_lt b1.out)).trans b1.out)
  have d2 := Lib.hid ((hb3.block _ (block_lt b2.out)).trans b2.out)
  have d3 := Lib.hid ((hb3.block _ (block_lt b3.out)).trans b3.out)
  have d4 := Lib.hid ((hb3.block _ (block_lt b4.out)).trans b4.out)
  have m23 := Lib.hid (m2.out.below hb3 (Nat.le_refl _))
  have hs3 := Lib.hid (show w.heap.size + 5 ≤ w3.heap.size by have := hs2.out; have := hb3.size; omega)
  replace hx1 := Lib.hid hx1
  replace hv1 := Lib.hid hv1
  replace hC3 := Lib.hid hC3
  clear hb3 b0 b1 b2 b3 b4 m2 hB hs2 hw2
  go_upto_region 15 with ((with_reducible show wpList _ _ _ (Oper.mk _ (Op.store 28 (.tmp 25) _) _ _ _ _ :: _) _ _); (refine wpList_store_row rfl 28 (.tmp 25) (.tmp 134) rfl w3.heap.size _ C3 rfl rfl hZ3 iC3 s3 o3 ?_); intro w4 hU4; have hb4 : Below w3.heap.size w3 w4 := (Below.alloc (Below.refl w3.heap.size w3) (Nat.le_refl _) _).trans (hU4.out.below (Nat.le_refl _)); have aP := Lib.hid hU4.out.here; replace hb4 := Lib.hid hb4; simp only [Act.put, List.setIfInBounds_toArray, List.set_cons_zero, List.set_cons_succ])
  have hB4 := Lib.hid (hB3.out.trans (hb4.out.mono hB3.out.size))
  replace d1 := Lib.hid ((hb4.out.block _ (block_lt d1.out)).trans d1.out)
  replace d2 := Lib.hid ((hb4.out.block _ (block_lt d2.out)).trans d2.out)
  replace d3 := Lib.hid ((hb4.out.block _ (block_lt d3.out)).trans d3.out)
  replace d4 := Lib.hid ((hb4.out.block _ (block_lt d4.out)).trans d4.out)
  have m24 := Lib.hid (m23.out.below hb4.out (Nat.le_refl _))
  replace hx1 := Lib.hid (hx1.out.below hb4.out (Nat.le_refl _))
  replace hv1 := Lib.hid (hv1.out.below hb4.out)
  have hs4 := Lib.hid (show w.heap.size + 5 ≤ w4.heap.size by have := hs3.out; have := hb4.out.size; omega)
  have hrp := Lib.hid (hrput.out w4 m24.out)
  obtain ⟨q0, q1, q2, q3, q4⟩ := hcell.out _ d2.out
  clear hb4 hU4 m23 hrput hB3
  generalize w3.heap.size = bP at *
  go_wp2_with (first
    | ((with_reducible show wpList _ _ _ (Oper.mk _ (Op.load 32 (.tmp 4)) _ _ _ _ :: _) _ _); refine wpList_load_row rfl 32 (.tmp 4) rfl (w.heap.size + 1) C2 _ rfl d1 huR rfl iC2 ?_; simp only [Act.put, List.setIfInBounds_toArray, List.set_cons_zero, List.set_cons_succ]))
  with_reducible refine hrp.out.mono ?_
  clear q0 q1 q2 q3 q4 hrp
  rintro e w5 ⟨x2, rfl, hx2, hb5⟩
  obtain ⟨a4, c4, a4', c4', e4⟩ := hx2.shape
  obtain ⟨C4, hC4⟩ : ∃ C4 : Array Value, C4 = #[.slice a4 RES.1.ns.length c4, .slice a4' RES.1.vs.length c4'] := ⟨_, rfl⟩
  rw [← hC4] at e4
  subst e4
  have iC4 : (Tryd.prog.info? 32).map (·.size) = some C4.size := by rw [hC4]; kernel_rfl
  have s4 : (#[.slice none 0 0, .slice none 0 0] : Array Value).size = C4.size := by rw [hC4]; rfl
  have o4 : C4.all (·.oneCell') = true := by rw [hC4]; simp [Value.oneCell']
  have hZ5 := Lib.hid (heap_alloc_new w5 (.cells #[.slice none 0 0, .slice none 0 0] 32))
  have hB5 := Lib.hid (hB4.out.trans (hb5.mono hB4.out.size))
  replace aP := Lib.hid ((hb5.block _ (block_lt aP.out)).trans aP.out)
  replace d3 := Lib.hid ((hb5.block _ (block_lt d3.out)).trans d3.out)
  replace d4 := Lib.hid ((hb5.block _ (block_lt d4.out)).trans d4.out)
  replace hx1 := Lib.hid (hx1.out.below hb5 (Nat.le_refl _))
  replace hv1 := Lib.hid (hv1.out.below hb5)
  have hs5 := Lib.hid (show w.heap.size + 5 ≤ w5.heap.size by have := hs4.out; have := hb5.size; omega)
  replace hx2 := Lib.hid hx2
  replace hC4 := Lib.hid hC4
  clear hb5 d1 d2 m24 hB4
  go_upto_region 16 with ((with_reducible show wpList _ _ _ (Oper.mk _ (Op.store 32 (.tmp 27) _) _ _ _ _ :: _) _ _); (refine wpList_store_row rfl 32 (.tmp 27) (.tmp 143) rfl w5.heap.size _ C4 rfl rfl hZ5 iC4 s4 o4 ?_); intro w6 hU6; have hb6 : Below w5.heap.size w5 w6 := (Below.alloc (Below.refl w5.heap.size w5) (Nat.le_refl _) _).trans (hU6.out.below (Nat.le_refl _)); have aR := Lib.hid hU6.out.here; replace hb6 := Lib.hid hb6; simp only [Act.put, List.setIfInBounds_toArray, List.set_cons_zero, List.set_cons_succ])
  have hB6 := Lib.hid (hB5.out.trans (hb6.out.mono hB5.out.size))
  replace aP := Lib.hid ((hb6.out.block _ (block_lt aP.out)).trans aP.out)
  replace d3 := Lib.hid ((hb6.out.block _ (block_lt d3.out)).trans d3.out)
  replace d4 := Lib.hid ((hb6.out.block _ (block_lt d4.out)).trans d4.out)
  replace hx1 := Lib.hid (hx1.out.below hb6.out (Nat.le_refl _))
  replace hx2 := Lib.hid (hx2.out.below hb6.out (Nat.le_refl _))
  replace hv1 := Lib.hid (hv1.out.below hb6.out)
  have h5l := hs5.out
  have h4l := hs4.out
  have hbPl : Hid (w.heap.size + 5 ≤ bP) := Lib.hid (by have := hs3.out; omega)
  clear hb6 hU6 hB5
  generalize w5.heap.size = bR at *
  have hgr := Grown.drew (Grown.refl w6)
  have hd0 : Hid (Only (fun k => k = w.heap.size + 3 ∨ k = w.heap.size + 4) w6 w6.drew) := Lib.hid (Only.ofBelow hgr)
  have rlA : ∀ W : World, Only (fun k => k = w.heap.size + 3 ∨ k = w.heap.size + 4) w6 W → W.heap[bP]? = some (.cells C3 28 (0, 0)) := fun W hW => hW.heap aP.out (by have := hbPl.out; omega)
  have huA := huM
  have hzA := iC3
  have rlB : ∀ W : World, Only (fun k => k = w.heap.size + 3 ∨ k = w.heap.size + 4) w6 W → W.heap[bR]? = some (.cells C4 32 (0, 0)) := fun W hW => hW.heap aR.out (by omega)
  have huB := huR
  have hzB := iC4
  replace d3 : Hid (w6.drew.heap[w.heap.size + 3]? = some (.cells #[.slice none 0 0, .slice none 0 0] 28 (0, 0))) := Lib.hid d3.out
  replace d4 : Hid (w6.drew.heap[w.heap.size + 4]? = some (.cells #[.slice none 0 0, .slice none 0 0] 32 (0, 0))) := Lib.hid d4.out
  have y1 : Hid (ArgM w6.drew (.agg C3) RES.1) := Lib.hid (hx1.out.below hgr (Nat.le_refl _))
  have y2 : Hid (ArgM w6.drew (.agg C4) RES.1) := Lib.hid (hx2.out.below hgr (Nat.le_refl _))
  have hD6 : ∀ g, (g = w.heap.size + 3 ∨ g = w.heap.size + 4) → ∃ C T z, w6.heap[g]? = some (.cells C T z) ∧ T ≠ 92 := by
    rintro g (rfl | rfl)
    · exact ⟨_, _, _, d3.out, by decide⟩
    · exact ⟨_, _, _, d4.out, by decide⟩
  replace hD6 := Lib.hid hD6
  clear hgr h5l h4l
  refine wp_region_held_drew (S := (Only (fun k => k = w.heap.size + 3 ∨ k = w.heap.size + 4) w6)) (by kernel_rfl) hd0.out (fun hOn => ?_)
  generalize World.drew w6 = wd at *
  refine wpAnyH_take (i := 0) (v := Value.agg _) (by simp only [List.getElem?_toArray, List.getElem?_cons_zero]; rfl) (by kernel_rfl) (by kernel_rfl) (by kernel_rfl) (by exact fun _ _ _ h => h) (Or.inl ⟨by rfl, fun W hSW => yields_load_row _ _ rfl _ _ _ rfl (rlA W hSW) huA rfl hzA⟩) hOn ?_
  try simp only [Act.put, List.setIfInBounds_toArray, List.set_cons_zero, List.set_cons_succ]
  refine wpAnyH_take (i := 1) (v := Value.agg _) (by simp only [List.getElem?_toArray, List.getElem?_cons_succ, List.getElem?_cons_zero]; rfl) (by kernel_rfl) (by kernel_rfl) (by kernel_rfl) (by exact fun _ _ _ h => h) (Or.inl ⟨by rfl, fun W hSW => yields_load_row _ _ rfl _ _ _ rfl (rlB W hSW) huB rfl hzB⟩) hOn ?_
  try simp only [Act.put, List.setIfInBounds_toArray, List.set_cons_zero, List.set_cons_succ]
  refine wpAnyH_take (i := 2) (v := ?_) (by simp only [List.getElem?_toArray, List.getElem?_cons_succ, List.getElem?_cons_zero]; rfl) (by kernel_rfl) (by kernel_rfl) (by kernel_rfl) (by exact fun _ _ _ h => h) (Or.inl ⟨by rfl, ?_⟩) hOn ?_
  rotate_left
  focus (intro W hSW; go_simp; try with_reducible rfl)
  try simp only [Act.put, List.setIfInBounds_toArray, List.set_cons_zero, List.set_cons_succ]
  refine wpAnyH_take (i := 4) (v := ?_) (by simp only [List.getElem?_toArray, List.getElem?_cons_succ, List.getElem?_cons_zero]; rfl) (by kernel_rfl) (by kernel_rfl) (by kernel_rfl) (by exact fun _ _ _ h => h) (Or.inl ⟨by rfl, ?_⟩) hOn ?_
  rotate_left
  focus (intro W hSW; go_simp; try with_reducible rfl)
  try simp only [Act.put, List.setIfInBounds_toArray, List.set_cons_zero, List.set_cons_succ]
  refine wpAnyH_ready (rs := [3]) (by kernel_rfl) (by simp) ?_
  refine AllReadyH.cons (by simp only [List.getElem?_toArray, List.getElem?_cons_succ, List.getElem?_cons_zero]; rfl) (fun Kz hKz => ?_) AllReadyH.nil
  go_simp
  (with_reducible refine (num_is (hv1.out.onlyM hOn hD6.out) (H.out.below (hB6.out.trans (hOn.below (B := w.heap.size) hB6.out.size (fun k e => by omega))))).mono ?_)
  rintro e wa ⟨rfl, hnew⟩
  have hS : Only (fun k => k = w.heap.size + 3 ∨ k = w.heap.size + 4) w6 wa := Only.trans hOn (Only.ofBelow (D := fun k => k = w.heap.size + 3 ∨ k = w.heap.size + 4) hnew) (fun _ _ h => h)
  (try replace d3 := Lib.hid ((hnew.block _ (block_lt d3.out)).trans d3.out))
  (try replace d4 := Lib.hid ((hnew.block _ (block_lt d4.out)).trans d4.out))
  (try replace f3 := Lib.hid ((hnew.block _ (block_lt f3.out)).trans f3.out))
  (try replace f4 := Lib.hid ((hnew.block _ (block_lt f4.out)).trans f4.out))
  replace y1 := Lib.hid (y1.out.below hnew (Nat.le_refl _))
  replace y2 := Lib.hid (y2.out.below hnew (Nat.le_refl _))
  focus (go_wp2_with fail)
  refine hKz.out _ _ (by first | exact hS | exact Below.trans hOn (Below.mono hnew (Below.size hOn))) (fun hNext => ?_)
  clear hKz Kz hOn
  have hOn := hNext
  clear hNext
  try clear hnew
  try clear hS
  try simp only [Act.put, List.setIfInBounds_toArray, List.set_cons_zero, List.set_cons_succ]
  refine wpAnyH_take (i := 5) (v := ?_) (by simp only [List.getElem?_toArray, List.getElem?_cons_succ, List.getElem?_cons_zero]; rfl) (by kernel_rfl) (by kernel_rfl) (by kernel_rfl) (by exact fun _ _ _ h => h) (Or.inl ⟨by rfl, ?_⟩) hOn ?_
  rotate_left
  focus (intro W hSW; go_simp; try with_reducible rfl)
  try simp only [Act.put, List.setIfInBounds_toArray, List.set_cons_zero, List.set_cons_succ]
  refine wpAnyH_ready (rs := [6]) (by kernel_rfl) (by simp) ?_
  refine AllReadyH.cons (by simp only [List.getElem?_toArray, List.getElem?_cons_succ, List.getElem?_cons_zero]; rfl) (fun Kz hKz => ?_) AllReadyH.nil
  rw [if_pos (by rfl)]
  (with_reducible refine wp_store_rowK 28 (.tmp 6) (.tmp 145) rfl (w.heap.size + 3) #[.slice none 0 0, .slice none 0 0] C3 rfl rfl d3 iC3 s3 o3 ?_)
  intro w8 hU8
  have hS : Only (fun k => k = w.heap.size + 3 ∨ k = w.heap.size + 4) w6 w8 := Only.trans hOn (Only.ofUpd (D := fun k => k = w.heap.size + 3 ∨ k = w.heap.size + 4) hU8.out (.inl rfl)) (fun _ _ h => h)
  have f3 := Lib.hid hU8.out.here
  (try replace d4 := Lib.hid ((hU8.out.block _ (by omega)).trans d4.out))
  (try replace f4 := Lib.hid ((hU8.out.block _ (by omega)).trans f4.out))
  replace y1 := Lib.hid (y1.out.updB d3.out hU8.out)
  replace y2 := Lib.hid (y2.out.updB d3.out hU8.out)
  refine hKz.out _ _ (by first | exact hS | exact Below.trans hOn (Below.mono hnew (Below.size hOn))) (fun hNext => ?_)
  clear hKz Kz hOn
  have hOn := hNext
  clear hNext
  try clear hnew
  try clear hS
  try simp only [Act.put]
  refine wpAnyH_ready (rs := [7]) (by kernel_rfl) (by simp) ?_
  refine AllReadyH.cons (by simp only [List.getElem?_toArray, List.getElem?_cons_succ, List.getElem?_cons_zero]; rfl) (fun Kz hKz => ?_) AllReadyH.nil
  rw [if_pos (by rfl)]
  (with_reducible refine wp_store_rowK 32 (.tmp 7) (.tmp 146) rfl (w.heap.size + 4) #[.slice none 0 0, .slice none 0 0] C4 rfl rfl d4 iC4 s4 o4 ?_)
  intro w9 hU9
  have hS : Only (fun k => k = w.heap.size + 3 ∨ k = w.heap.size + 4) w6 w9 := Only.trans hOn (Only.ofUpd (D := fun k => k = w.heap.size + 3 ∨ k = w.heap.size + 4) hU9.out (.inr rfl)) (fun _ _ h => h)
  have f4 := Lib.hid hU9.out.here
  (try replace d3 := Lib.hid ((hU9.out.block _ (by omega)).trans d3.out))
  (try replace f3 := Lib.hid ((hU9.out.block _ (by omega)).trans f3.out))
  replace y1 := Lib.hid (y1.out.updB d4.out hU9.out)
  replace y2 := Lib.hid (y2.out.updB d4.out hU9.out)
  refine hKz.out _ _ (by first | exact hS | exact Below.trans hOn (Below.mono hnew (Below.size hOn))) (fun hNext => ?_)
  clear hKz Kz hOn
  have hOn := hNext
  clear hNext
  try clear hnew
  try clear hS
  try simp only [Act.put]
  refine wpAnyH_take (i := 8) (v := ?_) (by simp only [List.getElem?_toArray, List.getElem?_cons_succ, List.getElem?_cons_zero]; rfl) (by kernel_rfl) (by kernel_rfl) (by kernel_rfl) (by exact fun _ _ _ h => h) (Or.inl ⟨by rfl, ?_⟩) hOn ?_
  rotate_left
  focus (intro W hSW; go_simp; try with_reducible rfl)
  try simp only [Act.put, List.setIfInBounds_toArray, List.set_cons_zero, List.set_cons_succ]
  refine wpAnyH_done (by kernel_rfl) ?_ _
  all_goals
    go_wp2_with fail
    refine ret_cells_tmp (c := C3) (c' := C4) rfl rfl rfl huM rfl iC3 f3.out huR rfl iC4 f4.out ?_
    exact ⟨_, _, rfl, y1.out, y2.out, hB6.out.trans (hOn.below (B := w.heap.size) hB6.out.size (fun k e => by omega))⟩
def mAct (m : Md) (a : Ac) : Md := if a.k = 0 then (mPut m a.s a.z a.f a.p).1 else if a.k = 1 then (mKept m a.n).1 else if a.k = 2 then (mAsked m a.n a.w).1 else (mJudged m a.n a.w).1
theorem mAct_ok {k : Nat} {m : Md} (h : MI k m) (a : Ac) : MI (k + 1) (mAct m a) ∧ growsM m (mAct m a) = true := by
  unfold mAct
  split
  · exact ⟨(mPut_ok h _ _ _ _).1.mono (Nat.le_succ _), (mPut_ok h _ _ _ _).2⟩
  · split
    · exact ⟨(mKept_ok h _).1.mono (Nat.le_succ _), (mKept_ok h _).2⟩
    · split
      · exact mAsked_ok h _ _
      · exact ⟨(mJudged_ok h _ _).1.mono (Nat.le_succ _), (mJudged_ok h _ _).2⟩
theorem step_any {k : Nat} {m : Md} (hI : MI k m) (hk : k ≤ 1000) (vm vw : Value) (w : World) (hm : ArgM w vm m) (hw : ArgM w vw m) (a : Ac) (ha : a.Ok) (hs : a.s.size ≤ 1000000) (ea : Nat → Addr) (H : Errs 137 errGs w ea) :
    Calls Tryd.prog 6 #[vm, vw, .agg a.list.toArray] w (StepPost (mAct m a) w) := by
  unfold mAct
  by_cases h0 : a.k = 0
  · rw [if_pos h0]; exact step_0 hI hk vm vw w hm hw a ha hs h0 ea H
  · rw [if_neg h0]
    by_cases h1 : a.k = 1
    · rw [if_pos h1]; exact step_1 hI hk vm vw w hm hw a ha hs h1 ea H
    · rw [if_neg h1]
      by_cases h2 : a.k = 2
      · rw [if_pos h2]; exact step_2 hI hk vm vw w hm hw a ha hs h2 ea H
      · rw [if_neg h2]; exact step_3 hI hk vm vw w hm hw a ha hs h0 h1 h2 ea H
end Go.Proofs.YtndgacjfkoliaaaDoor
