/- baileeref20.Parse of whole bytes of kind 4. Printed by genrpars.py. -/
import Derived.Test.YtahnicbokdbjdaaDoorF40ParsSaid20
import Derived.Test.YtahnicbokdbjdaaDoorF20ParsSaid20
namespace Go.Proofs.YtahnicbokdbjdaaDoor
open Go.RowKit
set_option linter.unusedVariables false

def yR4 (bs : List UInt8) : Rc := ({ Rc.ofKind 4 with obj := numR (cut bs 1 8) 0, tick := numR (cut bs 9 8) 0 } : Rc)
set_option maxRecDepth 100000 in
set_option maxHeartbeats 2000000 in
theorem rpars_full4 (bs : List UInt8) (b o c : Nat) (y : Rc) (hyy : y = yR4 bs) (hy : y.Ok) (w : World) (ha : ArgB w (some ⟨b, o, none⟩) c bs) (hn : bs.length = 17) (hm : 17 ≤ 1000) (hk : ((bs.getD 0 0).toNat : Int) = 4) : Calls Tryd.prog 16 #[.slice (some ⟨b, o, none⟩) 17 c] w (RFull y w) := by
  have hca := fun W hW => cell_cut ha W hW
  have hnc := Lib.hid (fun W hW => num_cut ha (by omega) W hW)
  rw [hn] at hca
  rw [hn] at hnc
  have hbl : b < w.heap.size := argB_lt ha (by omega)
  have hbd := Lib.hid (build_kindR (4))
  have s78 : (Rc.ofKind (4)).list.toArray.size = 78 := by rw [List.size_toArray, Rc.len (x := Rc.ofKind (4)) z32_len z32_len]
  have i8 : (Tryd.prog.info? 34).map (·.size) = some (Rc.ofKind (4)).list.toArray.size := by rw [s78]; kernel_rfl
  have z8 : (Tryd.zeroCells34).size = (Rc.ofKind (4)).list.toArray.size := by rw [s78]; kernel_rfl
  have hVo := Rc.all_one (Rc.ofKind (4))
  have iZ : (Tryd.prog.info? 34).map (·.size) = some (Tryd.zeroCells34).size := by kernel_rfl
  have hZo : (Tryd.zeroCells34).all (·.oneCell') = true := by rw [Rc.zeroR]; exact Rc.all_one Rc.zero
  have hu := Tryd.underlying34
  have i1 : (Tryd.prog.info? 3).map (·.size) = some 1 := by kernel_rfl
  have hrk0 : ∀ (W : World) g, W.heap[g]? = some (.cells (Rc.ofKind (4)).list.toArray 34 (0, 0)) → W.cell? ⟨g, 0, none⟩ = some (.int .i64 (4)) := fun W g h => by rw [cell_of_block h]; rfl
  replace hrk0 := Lib.hid hrk0
  unfold yR4 at hyy
  have hno := Lib.hid (fun W hW => hnc.out W hW 1 8 (by omega))
  have hnt := Lib.hid (fun W hW => hnc.out W hW 9 8 (by omega))
  generalize numR (cut bs 1 8) 0 = vo at *
  generalize numR (cut bs 9 8) 0 = vt at *
  have hs0 : (Rc.ofKind 4).list.toArray.setIfInBounds 1 (.int .i64 vo) = ({ Rc.ofKind 4 with obj := vo } : Rc).list.toArray := Rc.set1 (Rc.ofKind 4) vo
  have hj0 : 1 < (Rc.ofKind 4).list.toArray.size := by rw [List.size_toArray, Rc.len (x := Rc.ofKind 4) z32_len z32_len]; decide
  have hs1 : ({ Rc.ofKind 4 with obj := vo } : Rc).list.toArray.setIfInBounds 77 (.int .i64 vt) = ({ Rc.ofKind 4 with obj := vo, tick := vt } : Rc).list.toArray := Rc.set77 (x := ({ Rc.ofKind 4 with obj := vo } : Rc)) z32_len z32_len vt
  have hj1 : 77 < ({ Rc.ofKind 4 with obj := vo } : Rc).list.toArray.size := by rw [List.size_toArray, Rc.len (x := ({ Rc.ofKind 4 with obj := vo } : Rc)) z32_len z32_len]; decide
  have iY : (Tryd.prog.info? 34).map (·.size) = some y.list.toArray.size := by rw [Rc.size hy]; kernel_rfl
  have zY : (Tryd.zeroCells34).size = y.list.toArray.size := by rw [Rc.size hy]; kernel_rfl
  have hYo := Rc.all_one y
  have hck := Lib.hid (fun W => rcheck20_any y hy W)
  have hkY : ∀ (W : World) g, W.heap[g]? = some (.cells { Rc.ofKind 4 with obj := vo, tick := vt }.list.toArray 34 (0, 0)) → W.cell? ⟨g, 0, none⟩ = some (.int .i64 4) := fun W g h => by rw [cell_of_block h]; rfl
  have hch : Hid (((y.chk : Int) = 0 → ∀ W, Below w.heap.size w W → RFull y w (.returned (.tuple #[.agg y.list.toArray, .int .i64 0])) W) ∧ (((y.chk : Int) != 0) = true → ∀ W, Below w.heap.size w W → RFull y w (.returned (.tuple #[.agg Rc.zero.list.toArray, .int .i64 (y.chk : Int)])) W)) := Lib.hid ⟨fun e W hW => ⟨by rw [if_pos (by omega), e], hW⟩, fun e W hW => ⟨by rw [if_neg (by simpa using e)], hW⟩⟩
  have hM0 : Hid ((y.chk : Int) = 0 ∨ ((y.chk : Int) != 0) = true) := Lib.hid (by by_cases h : (y.chk : Int) = 0; exact .inl h; exact .inr (by simpa using h))
  rw [← hyy] at hs1
  generalize (y.chk : Int) = M at *
  generalize hYl : y.list.toArray = Y at *
  generalize ({ Rc.ofKind 4 with obj := vo } : Rc).list.toArray = R1 at *
  rw [← hyy, hYl] at hkY
  replace hkY := Lib.hid hkY
  clear hyy hYl hy
  replace hs0 := Lib.hid hs0
  replace hs1 := Lib.hid hs1
  generalize hRK : (Rc.ofKind (4)).list.toArray = RK at *
  have hZe : Hid (∀ m : Int, Ending.returned (.tuple #[.agg Tryd.zeroCells34, .int .i64 m]) = Ending.returned (.tuple #[.agg Rc.zero.list.toArray, .int .i64 m])) := Lib.hid (fun v => by rw [Rc.zeroR])
  replace hRK := Lib.hid hRK
  have hz1 : Hid (((w.alloc (.cells Tryd.zeroCells34 34)).alloc (.cells Tryd.zeroCells34 34)).heap[w.heap.size]? = some (.cells Tryd.zeroCells34 34 (0, 0))) := Lib.hid (by rw [heapA9, if_neg (by simp), heapA9, if_pos rfl])
  have hZp : Hid (((w.alloc (.cells Tryd.zeroCells34 34)).alloc (.cells Tryd.zeroCells34 34)).heap[w.heap.size + 1]? = some (.cells Tryd.zeroCells34 34 (0, 0))) := Lib.hid (by rw [heapA9, if_pos (by simp)])
  have hb1 : Below w.heap.size w (w.alloc (.cells Tryd.zeroCells34 34)) := (Below.refl _ _).alloc (Nat.le_refl _) _
  have hb2 := Lib.hid (hb1.alloc (by simp) (.cells Tryd.zeroCells34 34))
  have hs2 : ((w.alloc (.cells Tryd.zeroCells34 34)).alloc (.cells Tryd.zeroCells34 34)).heap.size = w.heap.size + 2 := by simp
  replace hca := Lib.hid hca
  have hc0 := hca.out _ hb1 0 (by omega)
  rw [Nat.add_zero] at hc0
  replace hb1 := Lib.hid hb1
  replace hs2 := Lib.hid hs2
  rw [hk] at hc0
  have hcl : 17 ≤ c := by have := ha.len; omega
  have hct1 : ¬ (c = 9) := by omega
  have hct2 : ¬ (c - 9 = 0) := by omega
  have hct3 : ¬ (9 = c) := by omega
  clear hn hm hk ha hcl
  go_enter Tryd.func16, Tryd.ntmps16
  go_wp2_with (first
    | ((with_reducible show wpList _ _ _ (Oper.mk _ (Op.build 34 _) _ _ _ _ :: _) _ _); refine wpList_buildV rfl 34 [(0, .tmp 17)] rfl [(0, .int .i64 (4))] rfl _ (hbd.out _) ?_)
    | ((with_reducible show wpList _ _ _ (Oper.mk _ (Op.store 34 (.tmp 4) _) _ _ _ _ :: _) _ _); (refine wpList_store_row rfl 34 (.tmp 4) (.tmp 18) rfl (w.heap.size + 1) _ RK rfl rfl hZp i8 z8 hVo ?_); intro w3 hU3; have hP3 := Lib.hid hU3.out.here; have hbw3 := Lib.hid (hb2.out.trans (hU3.out.below (by omega))); have hz3 := Lib.hid ((hU3.out.block _ (by omega)).trans hz1.out); have hs3 : w.heap.size + 2 = w3.heap.size := hs2.out.symm.trans hU3.out.size.symm; replace hs3 := Lib.hid hs3; have k0 := hrk0.out _ _ hP3.out; have hb4 : Below w3.heap.size w3 (w3.alloc (.cells #[.int .i64 0, .int .i64 0, .int .i64 30, .int .i64 26, .int .i64 17] 3)) := (Below.refl _ _).alloc (Nat.le_refl _) _; have hz4 := Lib.hid ((hb4.block _ (block_lt hz3.out)).trans hz3.out); have hP4 := Lib.hid ((hb4.block _ (block_lt hP3.out)).trans hP3.out); have hbw4 := Lib.hid (hbw3.out.trans (hb4.mono hbw3.out.size)); clear hb4; have k0f := hrk0.out _ _ hP4.out))
  obtain ⟨w4, hw4⟩ : ∃ W, W = w3.alloc (.cells #[.int .i64 0, .int .i64 0, .int .i64 30, .int .i64 26, .int .i64 17] 3) := ⟨_, rfl⟩
  rw [← hw4] at hz4 hP4 hbw4 k0f ⊢
  have hs4 : w.heap.size + 2 ≤ w4.heap.size := by rw [hw4]; have := hs3.out; simp; omega
  clear hw4 k0 k0f
  have k0 := hrk0.out _ _ hP4.out
  with_reducible refine (hno.out _ hbw4.out).mono ?_
  rintro e w5 ⟨rfl, hx5⟩
  obtain rfl := hx5.symm
  go_wp2_with ((with_reducible show wpList _ _ _ (Oper.mk _ (Op.store 3 (.tmp 61) _) _ _ _ _ :: _) _ _); (refine wpList_store_oneU rfl 3 34 (.tmp 61) (.tmp 60) rfl (w.heap.size + 1) 1 RK (.int .i64 vo) rfl rfl hP4 hj0 i1 rfl ?_); intro w6 hU6; rw [hs0.out] at hU6; have hP6 := Lib.hid hU6.out.here; have hz6 := Lib.hid ((hU6.out.block _ (by omega)).trans hz4.out); have hbw6 := Lib.hid (hbw4.out.trans (hU6.out.below (by omega))))
  with_reducible refine (hnt.out _ hbw6.out).mono ?_
  rintro e w7 ⟨rfl, hx7⟩
  obtain rfl := hx7.symm
  go_wp2_with (first
    | ((with_reducible show wpList _ _ _ (Oper.mk _ (Op.store 3 (.tmp 67) _) _ _ _ _ :: _) _ _); (refine wpList_store_oneU rfl 3 34 (.tmp 67) (.tmp 66) rfl (w.heap.size + 1) 77 R1 (.int .i64 vt) rfl rfl hP6 hj1 i1 rfl ?_); intro w8 hU8; rw [hs1.out] at hU8; have hP8 := Lib.hid hU8.out.here; have hz8 := Lib.hid ((hU8.out.block _ (by omega)).trans hz6.out); have hbw8 := Lib.hid (hbw6.out.trans (hU8.out.below (by omega))); have k1 := hkY.out _ _ hP8.out)
    | (with_reducible refine wpList_load_row rfl 34 (.tmp 4) rfl (w.heap.size + 1) Y _ rfl hP8 hu rfl iY ?_))
  with_reducible refine (hck.out _).mono ?_
  rintro e wc ⟨rfl, hbc⟩
  have hzc := Lib.hid ((hbc.block _ (block_lt hz8.out)).trans hz8.out)
  have hPc := Lib.hid ((hbc.block _ (block_lt hP8.out)).trans hP8.out)
  have hbwc := Lib.hid (hbw8.out.trans (hbc.mono hbw8.out.size))
  clear hbc
  rcases hM0.out with hm0 | hm0
  · have hn0 : (M != 0) = false := by rw [hm0]; rfl
    replace hm0 := Lib.hid hm0
    go_wp2_with (first
      | (with_reducible refine wpList_load_row rfl 34 (.tmp 4) rfl (w.heap.size + 1) Y _ rfl hPc hu rfl iY ?_)
      | ((with_reducible show wpList _ _ _ (Oper.mk _ (Op.store 34 (.tmp 2) _) _ _ _ _ :: _) _ _); (refine wpList_store_row rfl 34 (.tmp 2) (.tmp 147) rfl w.heap.size _ Y rfl rfl hzc iY zY hYo ?_); intro w10 hU10))
    refine ret_cell_tmpB rfl rfl hu rfl iY hU10.out.here ?_
    exact hch.out.1 hm0.out _ (hbwc.out.trans (hU10.out.below (Nat.le_refl _)))
  · go_wp2_with (first
      | ((with_reducible show wpList _ _ _ (Oper.mk _ (Op.store 34 (.tmp 2) _) _ _ _ _ :: _) _ _); (refine wpList_store_row rfl 34 (.tmp 2) (.tmp 145) rfl w.heap.size _ Tryd.zeroCells34 rfl rfl hzc iZ rfl hZo ?_); intro w10 hU10))
    refine ret_cell_tmpB rfl rfl hu rfl iZ hU10.out.here ?_
    have hfin := hch.out.2 hm0 _ (hbwc.out.trans (hU10.out.below (Nat.le_refl _)))
    rw [← hZe.out M] at hfin
    exact hfin
end Go.Proofs.YtahnicbokdbjdaaDoor
