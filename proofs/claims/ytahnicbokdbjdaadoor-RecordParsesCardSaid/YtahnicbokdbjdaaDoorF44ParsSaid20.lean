/- baileeref20.Parse of whole bytes of kind 2. Printed by genrpars.py. -/
import Derived.Test.YtahnicbokdbjdaaDoorF40ParsSaid20
import Derived.Test.YtahnicbokdbjdaaDoorF20ParsSaid20
namespace Go.Proofs.YtahnicbokdbjdaaDoor
open Go.RowKit
set_option linter.unusedVariables false

def yR2 (bs : List UInt8) : Rc := ({ Rc.ofKind 2 with obj := numR (cut bs 1 8) 0, tick := numR (cut bs 22 8) 0, id := numR (cut bs 9 8) 0, way := ((bs.getD 17 0).toNat : Int), index := numR (cut bs 18 4) 0 } : Rc)
set_option maxRecDepth 100000 in
set_option maxHeartbeats 2000000 in
theorem rpars_full2 (bs : List UInt8) (b o c : Nat) (y : Rc) (hyy : y = yR2 bs) (hy : y.Ok) (w : World) (ha : ArgB w (some ⟨b, o, none⟩) c bs) (hn : bs.length = 30) (hm : 30 ≤ 1000) (hk : ((bs.getD 0 0).toNat : Int) = 2) : Calls Tryd.prog 16 #[.slice (some ⟨b, o, none⟩) 30 c] w (RFull y w) := by
  have hca := fun W hW => cell_cut ha W hW
  have hnc := Lib.hid (fun W hW => num_cut ha (by omega) W hW)
  rw [hn] at hca
  rw [hn] at hnc
  have hbl : b < w.heap.size := argB_lt ha (by omega)
  have hbd := Lib.hid (build_kindR (2))
  have s78 : (Rc.ofKind (2)).list.toArray.size = 78 := by rw [List.size_toArray, Rc.len (x := Rc.ofKind (2)) z32_len z32_len]
  have i8 : (Tryd.prog.info? 34).map (·.size) = some (Rc.ofKind (2)).list.toArray.size := by rw [s78]; kernel_rfl
  have z8 : (Tryd.zeroCells34).size = (Rc.ofKind (2)).list.toArray.size := by rw [s78]; kernel_rfl
  have hVo := Rc.all_one (Rc.ofKind (2))
  have iZ : (Tryd.prog.info? 34).map (·.size) = some (Tryd.zeroCells34).size := by kernel_rfl
  have hZo : (Tryd.zeroCells34).all (·.oneCell') = true := by rw [Rc.zeroR]; exact Rc.all_one Rc.zero
  have hu := Tryd.underlying34
  have i1 : (Tryd.prog.info? 3).map (·.size) = some 1 := by kernel_rfl
  have hrk0 : ∀ (W : World) g, W.heap[g]? = some (.cells (Rc.ofKind (2)).list.toArray 34 (0, 0)) → W.cell? ⟨g, 0, none⟩ = some (.int .i64 (2)) := fun W g h => by rw [cell_of_block h]; rfl
  replace hrk0 := Lib.hid hrk0
  unfold yR2 at hyy
  have hno := Lib.hid (fun W hW => hnc.out W hW 1 8 (by omega))
  have hnt := Lib.hid (fun W hW => hnc.out W hW 22 8 (by omega))
  generalize numR (cut bs 1 8) 0 = vo at *
  generalize numR (cut bs 22 8) 0 = vt at *
  have hni := Lib.hid (fun W hW => hnc.out W hW 9 8 (by omega))
  generalize numR (cut bs 9 8) 0 = vi at *
  have h17 := fun W hW => hca W hW 17 (by omega)
  have hnx := Lib.hid (fun W hW => hnc.out W hW 18 4 (by omega))
  generalize numR (cut bs 18 4) 0 = vx at *
  have hvb : 0 ≤ ((bs.getD 17 0).toNat : Int) ∧ ((bs.getD 17 0).toNat : Int) ≤ 255 := by have := (bs.getD 17 0).toNat_lt; omega
  generalize ((bs.getD 17 0).toNat : Int) = vw at *
  have hev : IntKind.i64.wrap vw = vw := IntWalk.i64_in _ (by omega)
  clear hvb
  replace h17 := Lib.hid h17
  have hst0 : (Rc.ofKind 2).list.toArray.setIfInBounds 1 (.int .i64 vo) = ({ Rc.ofKind 2 with obj := vo } : Rc).list.toArray := Rc.set1 (Rc.ofKind 2) vo
  have hj0 : 1 < (Rc.ofKind 2).list.toArray.size := by rw [List.size_toArray, Rc.len (x := Rc.ofKind 2) z32_len z32_len]; decide
  have hst1 : ({ Rc.ofKind 2 with obj := vo } : Rc).list.toArray.setIfInBounds 77 (.int .i64 vt) = ({ Rc.ofKind 2 with obj := vo, tick := vt } : Rc).list.toArray := Rc.set77 (x := ({ Rc.ofKind 2 with obj := vo } : Rc)) z32_len z32_len vt
  have hj1 : 77 < ({ Rc.ofKind 2 with obj := vo } : Rc).list.toArray.size := by rw [List.size_toArray, Rc.len (x := ({ Rc.ofKind 2 with obj := vo } : Rc)) z32_len z32_len]; decide
  have hst2 : ({ Rc.ofKind 2 with obj := vo, tick := vt } : Rc).list.toArray.setIfInBounds 2 (.int .i64 vi) = ({ Rc.ofKind 2 with obj := vo, tick := vt, id := vi } : Rc).list.toArray := Rc.set2 (({ Rc.ofKind 2 with obj := vo, tick := vt } : Rc)) vi
  have hj2 : 2 < ({ Rc.ofKind 2 with obj := vo, tick := vt } : Rc).list.toArray.size := by rw [List.size_toArray, Rc.len (x := ({ Rc.ofKind 2 with obj := vo, tick := vt } : Rc)) z32_len z32_len]; decide
  have hst3 : ({ Rc.ofKind 2 with obj := vo, tick := vt, id := vi } : Rc).list.toArray.setIfInBounds 74 (.int .i64 vw) = ({ Rc.ofKind 2 with obj := vo, tick := vt, id := vi, way := vw } : Rc).list.toArray := Rc.set74 (x := ({ Rc.ofKind 2 with obj := vo, tick := vt, id := vi } : Rc)) z32_len z32_len vw
  have hj3 : 74 < ({ Rc.ofKind 2 with obj := vo, tick := vt, id := vi } : Rc).list.toArray.size := by rw [List.size_toArray, Rc.len (x := ({ Rc.ofKind 2 with obj := vo, tick := vt, id := vi } : Rc)) z32_len z32_len]; decide
  have hst4 : ({ Rc.ofKind 2 with obj := vo, tick := vt, id := vi, way := vw } : Rc).list.toArray.setIfInBounds 75 (.int .i64 vx) = ({ Rc.ofKind 2 with obj := vo, tick := vt, id := vi, way := vw, index := vx } : Rc).list.toArray := Rc.set75 (x := ({ Rc.ofKind 2 with obj := vo, tick := vt, id := vi, way := vw } : Rc)) z32_len z32_len vx
  have hj4 : 75 < ({ Rc.ofKind 2 with obj := vo, tick := vt, id := vi, way := vw } : Rc).list.toArray.size := by rw [List.size_toArray, Rc.len (x := ({ Rc.ofKind 2 with obj := vo, tick := vt, id := vi, way := vw } : Rc)) z32_len z32_len]; decide
  have iY : (Tryd.prog.info? 34).map (·.size) = some y.list.toArray.size := by rw [Rc.size hy]; kernel_rfl
  have zY : (Tryd.zeroCells34).size = y.list.toArray.size := by rw [Rc.size hy]; kernel_rfl
  have hYo := Rc.all_one y
  have hck := Lib.hid (fun W => rcheck20_any y hy W)
  have hkY : ∀ (W : World) g, W.heap[g]? = some (.cells { Rc.ofKind 2 with obj := vo, tick := vt }.list.toArray 34 (0, 0)) → W.cell? ⟨g, 0, none⟩ = some (.int .i64 2) := fun W g h => by rw [cell_of_block h]; rfl
  have hch : Hid (((y.chk : Int) = 0 → ∀ W, Below w.heap.size w W → RFull y w (.returned (.tuple #[.agg y.list.toArray, .int .i64 0])) W) ∧ (((y.chk : Int) != 0) = true → ∀ W, Below w.heap.size w W → RFull y w (.returned (.tuple #[.agg Rc.zero.list.toArray, .int .i64 (y.chk : Int)])) W)) := Lib.hid ⟨fun e W hW => ⟨by rw [if_pos (by omega), e], hW⟩, fun e W hW => ⟨by rw [if_neg (by simpa using e)], hW⟩⟩
  have hM0 : Hid ((y.chk : Int) = 0 ∨ ((y.chk : Int) != 0) = true) := Lib.hid (by by_cases h : (y.chk : Int) = 0; exact .inl h; exact .inr (by simpa using h))
  rw [← hyy] at hst4
  generalize (y.chk : Int) = M at *
  generalize hYl : y.list.toArray = Y at *
  generalize ({ Rc.ofKind 2 with obj := vo } : Rc).list.toArray = R1 at *
  generalize ({ Rc.ofKind 2 with obj := vo, tick := vt } : Rc).list.toArray = R2 at *
  generalize ({ Rc.ofKind 2 with obj := vo, tick := vt, id := vi } : Rc).list.toArray = R3 at *
  generalize ({ Rc.ofKind 2 with obj := vo, tick := vt, id := vi, way := vw } : Rc).list.toArray = R4 at *
  replace hkY := Lib.hid hkY
  clear hyy hYl hy
  replace hst0 := Lib.hid hst0
  replace hst1 := Lib.hid hst1
  replace hst2 := Lib.hid hst2
  replace hst3 := Lib.hid hst3
  replace hst4 := Lib.hid hst4
  generalize hRK : (Rc.ofKind (2)).list.toArray = RK at *
  have hZe : Hid (∀ m : Int, Ending.returned (.tuple #[.agg Tryd.zeroCells34, .int .i64 m]) = Ending.returned (.tuple #[.agg Rc.zero.list.toArray, .int .i64 m])) := Lib.hid (fun v => by rw [Rc.zeroR])
  replace hRK := Lib.hid hRK
  have hz1 : Hid (((w.alloc (.cells Tryd.zeroCells34 34)).alloc (.cells Tryd.zeroCells34 34)).heap[w.heap.size]? = some (.cells Tryd.zeroCells34 34 (0, 0))) := Lib.hid (by rw [heapA9, if_neg (by simp), heapA9, if_pos rfl])
  have hZp : Hid (((w.alloc (.cells Tryd.zeroCells34 34)).alloc (.cells Tryd.zeroCells34 34)).heap[w.heap.size + 1]? = some (.cells Tryd.zeroCells34 34 (0, 0))) := Lib.hid (by rw [heapA9, if_pos (by simp)])
  have hb1 : Below w.heap.size w (w.alloc (.cells Tryd.zeroCells34 34)) := (Below.refl _ _).alloc (Nat.le_refl _) _
  have hb2 := Lib.hid (hb1.alloc (by simp) (.cells Tryd.zeroCells34 34))
  have hs2 : ((w.alloc (.cells Tryd.zeroCells34 34)).alloc (.cells Tryd.zeroCells34 34)).heap.size = w.heap.size + 2 := by simp
  replace hca := Lib.hid hca
  have hc0 := hca.out _ hb1 0 (by omega)
  rw [Nat.add_zero] at hc0
  replace hb1 := Lib.hid hb1
  replace hs2 := Lib.hid hs2
  rw [hk] at hc0
  have hcl : 30 ≤ c := by have := ha.len; omega
  have hcu1 : (17 : Int) ≤ (c : Int) := by omega
  have hcu2 : ¬ (c = 9) := by omega
  have hcu3 : (22 : Int) ≤ (c : Int) := by omega
  have hcu4 : ¬ (c = 18) := by omega
  have hct1 : ¬ (c = 22) := by omega
  have hct2 : ¬ (c - 22 = 0) := by omega
  have hct3 : ¬ (22 = c) := by omega
  clear hn hm hk ha hcl
  go_enter Tryd.func16, Tryd.ntmps16
  go_wp2_with (first
    | ((with_reducible show wpList _ _ _ (Oper.mk _ (Op.build 34 _) _ _ _ _ :: _) _ _); refine wpList_buildV rfl 34 [(0, .tmp 17)] rfl [(0, .int .i64 (2))] rfl _ (hbd.out _) ?_)
    | ((with_reducible show wpList _ _ _ (Oper.mk _ (Op.store 34 (.tmp 4) _) _ _ _ _ :: _) _ _); (refine wpList_store_row rfl 34 (.tmp 4) (.tmp 18) rfl (w.heap.size + 1) _ RK rfl rfl hZp i8 z8 hVo ?_); intro w3 hU3; have hP3 := Lib.hid hU3.out.here; have hbw3 := Lib.hid (hb2.out.trans (hU3.out.below (by omega))); have hz3 := Lib.hid ((hU3.out.block _ (by omega)).trans hz1.out); have hs3 : w.heap.size + 2 = w3.heap.size := hs2.out.symm.trans hU3.out.size.symm; replace hs3 := Lib.hid hs3; have k0 := hrk0.out _ _ hP3.out; have hb4 : Below w3.heap.size w3 (w3.alloc (.cells #[.int .i64 0, .int .i64 0, .int .i64 30, .int .i64 26, .int .i64 17] 3)) := (Below.refl _ _).alloc (Nat.le_refl _) _; have hz4 := Lib.hid ((hb4.block _ (block_lt hz3.out)).trans hz3.out); have hP4 := Lib.hid ((hb4.block _ (block_lt hP3.out)).trans hP3.out); have hbw4 := Lib.hid (hbw3.out.trans (hb4.mono hbw3.out.size)); clear hb4; have k0f := hrk0.out _ _ hP4.out))
  obtain ⟨w4, hw4⟩ : ∃ W, W = w3.alloc (.cells #[.int .i64 0, .int .i64 0, .int .i64 30, .int .i64 26, .int .i64 17] 3) := ⟨_, rfl⟩
  rw [← hw4] at hz4 hP4 hbw4 k0f ⊢
  have hs4 : w.heap.size + 2 ≤ w4.heap.size := by rw [hw4]; have := hs3.out; simp; omega
  clear hw4 k0 k0f
  have k0 := hrk0.out _ _ hP4.out
  with_reducible refine (hno.out _ hbw4.out).mono ?_
  rintro e w5 ⟨rfl, hx5⟩
  obtain rfl := hx5.symm
  go_wp2_with ((with_reducible show wpList _ _ _ (Oper.mk _ (Op.store 3 (.tmp 61) _) _ _ _ _ :: _) _ _); (refine wpList_store_oneU rfl 3 34 (.tmp 61) (.tmp 60) rfl (w.heap.size + 1) 1 RK (.int .i64 vo) rfl rfl hP4 hj0 i1 rfl ?_); intro w6 hU6; rw [hst0.out] at hU6; have hP6 := Lib.hid hU6.out.here; have hz6 := Lib.hid ((hU6.out.block _ (by omega)).trans hz4.out); have hbw6 := Lib.hid (hbw4.out.trans (hU6.out.below (by omega))))
  with_reducible refine (hnt.out _ hbw6.out).mono ?_
  rintro e w7 ⟨rfl, hx7⟩
  obtain rfl := hx7.symm
  go_wp2_with (((with_reducible show wpList _ _ _ (Oper.mk _ (Op.store 3 (.tmp 67) _) _ _ _ _ :: _) _ _); (refine wpList_store_oneU rfl 3 34 (.tmp 67) (.tmp 66) rfl (w.heap.size + 1) 77 R1 (.int .i64 vt) rfl rfl hP6 hj1 i1 rfl ?_); intro w8 hU8; rw [hst1.out] at hU8; have hP8 := Lib.hid hU8.out.here; have hz8 := Lib.hid ((hU8.out.block _ (by omega)).trans hz6.out); have hbw8 := Lib.hid (hbw6.out.trans (hU8.out.below (by omega))); have k1 := hkY.out _ _ hP8.out))
  have hdd : Hid (Only (fun k => k = w.heap.size + 1) w8 w8.drew) := Lib.hid (Only.refl _ _).drew
  have hSB : Hid (∀ W, Only (fun k => k = w.heap.size + 1) w8 W → Below w.heap.size w W) := Lib.hid (fun W h => hbw8.out.trans (h.below hbw8.out.size (fun k e => by omega)))
  have h17d : ∀ W, Only (fun k => k = w.heap.size + 1) w8 W → W.cell? ⟨b, o + 17, none⟩ = some (.int .u8 vw) := fun W h => h17.out W (hSB.out W h)
  have hPd : Hid (w8.drew.heap[w.heap.size + 1]? = some (.cells R2 34 (0, 0))) := Lib.hid hP8.out
  clear k1
  refine wp_region_held_drew (S := (Only (fun k => k = w.heap.size + 1) w8)) (by kernel_rfl) hdd.out (fun hOn => ?_)
  generalize World.drew w8 = wd at *
  refine wpAnyH_take (i := 0) (v := ?_) (by simp only [List.getElem?_toArray, List.getElem?_cons_zero]; rfl) (by kernel_rfl) (by kernel_rfl) (by kernel_rfl) (by exact fun _ _ _ h => h) (Or.inl ⟨by rfl, ?_⟩) hOn ?_
  rotate_left
  focus (intro W hSW; go_simp; try with_reducible rfl)
  try simp only [Act.put, List.setIfInBounds_toArray, List.set_cons_zero, List.set_cons_succ]
  refine wpAnyH_take (i := 1) (v := ?_) (by simp only [List.getElem?_toArray, List.getElem?_cons_succ, List.getElem?_cons_zero]; rfl) (by kernel_rfl) (by kernel_rfl) (by kernel_rfl) (by exact fun _ _ _ h => h) (Or.inl ⟨by rfl, ?_⟩) hOn ?_
  rotate_left
  focus (intro W hSW; go_simp; try with_reducible rfl)
  try simp only [Act.put, List.setIfInBounds_toArray, List.set_cons_zero, List.set_cons_succ]
  refine wpAnyH_take (i := 3) (v := ?_) (by simp only [List.getElem?_toArray, List.getElem?_cons_succ, List.getElem?_cons_zero]; rfl) (by kernel_rfl) (by kernel_rfl) (by kernel_rfl) (by exact fun _ _ _ h => h) (Or.inl ⟨by rfl, ?_⟩) hOn ?_
  rotate_left
  focus (intro W hSW; go_simp; try with_reducible rfl)
  try simp only [Act.put, List.setIfInBounds_toArray, List.set_cons_zero, List.set_cons_succ]
  refine wpAnyH_take (i := 4) (v := ?_) (by simp only [List.getElem?_toArray, List.getElem?_cons_succ, List.getElem?_cons_zero]; rfl) (by kernel_rfl) (by kernel_rfl) (by kernel_rfl) (by exact fun _ _ _ h => h) (Or.inl ⟨by rfl, ?_⟩) hOn ?_
  rotate_left
  focus (intro W hSW; go_simp; try with_reducible rfl)
  try simp only [Act.put, List.setIfInBounds_toArray, List.set_cons_zero, List.set_cons_succ]
  refine wpAnyH_take (i := 5) (v := ?_) (by simp only [List.getElem?_toArray, List.getElem?_cons_succ, List.getElem?_cons_zero]; rfl) (by kernel_rfl) (by kernel_rfl) (by kernel_rfl) (by exact fun _ _ _ h => h) (Or.inl ⟨by rfl, ?_⟩) hOn ?_
  rotate_left
  focus (intro W hSW; go_simp; try with_reducible rfl)
  try simp only [Act.put, List.setIfInBounds_toArray, List.set_cons_zero, List.set_cons_succ]
  refine wpAnyH_take (i := 6) (v := ?_) (by simp only [List.getElem?_toArray, List.getElem?_cons_succ, List.getElem?_cons_zero]; rfl) (by kernel_rfl) (by kernel_rfl) (by kernel_rfl) (by exact fun _ _ _ h => h) (Or.inl ⟨by rfl, ?_⟩) hOn ?_
  rotate_left
  focus (intro W hSW; go_simp; try with_reducible rfl)
  try simp only [Act.put, List.setIfInBounds_toArray, List.set_cons_zero, List.set_cons_succ]
  refine wpAnyH_take (i := 7) (v := ?_) (by simp only [List.getElem?_toArray, List.getElem?_cons_succ, List.getElem?_cons_zero]; rfl) (by kernel_rfl) (by kernel_rfl) (by kernel_rfl) (by exact fun _ _ _ h => h) (Or.inl ⟨by rfl, ?_⟩) hOn ?_
  rotate_left
  focus (intro W hSW; go_simp; try with_reducible rfl)
  try simp only [Act.put, List.setIfInBounds_toArray, List.set_cons_zero, List.set_cons_succ]
  refine wpAnyH_take (i := 8) (v := ?_) (by simp only [List.getElem?_toArray, List.getElem?_cons_succ, List.getElem?_cons_zero]; rfl) (by kernel_rfl) (by kernel_rfl) (by kernel_rfl) (by exact fun _ _ _ h => h) (Or.inl ⟨by rfl, ?_⟩) hOn ?_
  rotate_left
  focus (intro W hSW; go_simp; try with_reducible rfl)
  try simp only [Act.put, List.setIfInBounds_toArray, List.set_cons_zero, List.set_cons_succ]
  refine wpAnyH_ready (rs := [2]) (by kernel_rfl) (by simp) ?_
  refine AllReadyH.cons (by simp only [List.getElem?_toArray, List.getElem?_cons_succ, List.getElem?_cons_zero]; rfl) (fun Kz hKz => ?_) AllReadyH.nil
  go_simp
  (with_reducible refine (hni.out _ (hSB.out _ hOn)).mono ?_)
  rintro e w5 ⟨rfl, hx5⟩
  obtain rfl := hx5.symm
  have hS := hOn
  focus (go_wp2_with fail)
  refine hKz.out _ _ (by first | exact hS | exact Below.trans hOn (Below.mono hnew (Below.size hOn))) (fun hNext => ?_)
  clear hKz Kz hOn
  have hOn := hNext
  clear hNext
  try clear hnew
  try clear hS
  try simp only [Act.put, List.setIfInBounds_toArray, List.set_cons_zero, List.set_cons_succ]
  refine wpAnyH_ready (rs := [9]) (by kernel_rfl) (by simp) ?_
  refine AllReadyH.cons (by simp only [List.getElem?_toArray, List.getElem?_cons_succ, List.getElem?_cons_zero]; rfl) (fun Kz hKz => ?_) AllReadyH.nil
  go_simp
  (with_reducible refine (hnx.out _ (hSB.out _ hOn)).mono ?_)
  rintro e w5 ⟨rfl, hx5⟩
  obtain rfl := hx5.symm
  have hS := hOn
  focus (go_wp2_with fail)
  refine hKz.out _ _ (by first | exact hS | exact Below.trans hOn (Below.mono hnew (Below.size hOn))) (fun hNext => ?_)
  clear hKz Kz hOn
  have hOn := hNext
  clear hNext
  try clear hnew
  try clear hS
  try simp only [Act.put, List.setIfInBounds_toArray, List.set_cons_zero, List.set_cons_succ]
  refine wpAnyH_take (i := 10) (v := ?_) (by simp only [List.getElem?_toArray, List.getElem?_cons_succ, List.getElem?_cons_zero]; rfl) (by kernel_rfl) (by kernel_rfl) (by kernel_rfl) (by exact fun _ _ _ h => h) (Or.inl ⟨by rfl, ?_⟩) hOn ?_
  rotate_left
  focus (intro W hSW; go_simp; try with_reducible rfl)
  try simp only [Act.put, List.setIfInBounds_toArray, List.set_cons_zero, List.set_cons_succ]
  refine wpAnyH_ready (rs := [11]) (by kernel_rfl) (by simp) ?_
  refine AllReadyH.cons (by simp only [List.getElem?_toArray, List.getElem?_cons_succ, List.getElem?_cons_zero]; rfl) (fun Kz hKz => ?_) AllReadyH.nil
  rw [if_pos (by rfl)]
  (with_reducible refine wp_store_oneU 3 34 (.tmp 127) (.tmp 119) rfl (w.heap.size + 1) 2 R2 (.int .i64 vi) rfl rfl hPd hj2 i1 one_i64 ?_)
  intro w90 hU90
  rw [hst2.out] at hU90
  have hS := hOn.trans (Only.ofUpd (D := fun k => k = w.heap.size + 1) hU90.out rfl) (fun _ _ e => e)
  have hP90 := Lib.hid hU90.out.here
  refine hKz.out _ _ (by first | exact hS | exact Below.trans hOn (Below.mono hnew (Below.size hOn))) (fun hNext => ?_)
  clear hKz Kz hOn
  have hOn := hNext
  clear hNext
  try clear hnew
  try clear hS
  try simp only [Act.put]
  refine wpAnyH_take (i := 12) (v := ?_) (by simp only [List.getElem?_toArray, List.getElem?_cons_succ, List.getElem?_cons_zero]; rfl) (by kernel_rfl) (by kernel_rfl) (by kernel_rfl) (by exact fun _ _ _ h => h) (Or.inl ⟨by rfl, ?_⟩) hOn ?_
  rotate_left
  focus (intro W hSW; go_simp; try with_reducible rfl)
  try simp only [Act.put, List.setIfInBounds_toArray, List.set_cons_zero, List.set_cons_succ]
  refine wpAnyH_ready (rs := [13]) (by kernel_rfl) (by simp) ?_
  refine AllReadyH.cons (by simp only [List.getElem?_toArray, List.getElem?_cons_succ, List.getElem?_cons_zero]; rfl) (fun Kz hKz => ?_) AllReadyH.nil
  rw [if_pos (by rfl)]
  (with_reducible refine wp_store_oneU 3 34 (.tmp 128) (.tmp 123) rfl (w.heap.size + 1) 74 R3 (.int .i64 vw) rfl rfl hP90 hj3 i1 one_i64 ?_)
  intro w91 hU91
  rw [hst3.out] at hU91
  have hS := hOn.trans (Only.ofUpd (D := fun k => k = w.heap.size + 1) hU91.out rfl) (fun _ _ e => e)
  have hP91 := Lib.hid hU91.out.here
  refine hKz.out _ _ (by first | exact hS | exact Below.trans hOn (Below.mono hnew (Below.size hOn))) (fun hNext => ?_)
  clear hKz Kz hOn
  have hOn := hNext
  clear hNext
  try clear hnew
  try clear hS
  try simp only [Act.put]
  refine wpAnyH_take (i := 14) (v := ?_) (by simp only [List.getElem?_toArray, List.getElem?_cons_succ, List.getElem?_cons_zero]; rfl) (by kernel_rfl) (by kernel_rfl) (by kernel_rfl) (by exact fun _ _ _ h => h) (Or.inl ⟨by rfl, ?_⟩) hOn ?_
  rotate_left
  focus (intro W hSW; go_simp; try with_reducible rfl)
  try simp only [Act.put, List.setIfInBounds_toArray, List.set_cons_zero, List.set_cons_succ]
  refine wpAnyH_ready (rs := [15]) (by kernel_rfl) (by simp) ?_
  refine AllReadyH.cons (by simp only [List.getElem?_toArray, List.getElem?_cons_succ, List.getElem?_cons_zero]; rfl) (fun Kz hKz => ?_) AllReadyH.nil
  rw [if_pos (by rfl)]
  (with_reducible refine wp_store_oneU 3 34 (.tmp 129) (.tmp 126) rfl (w.heap.size + 1) 75 R4 (.int .i64 vx) rfl rfl hP91 hj4 i1 one_i64 ?_)
  intro w92 hU92
  rw [hst4.out] at hU92
  have hS := hOn.trans (Only.ofUpd (D := fun k => k = w.heap.size + 1) hU92.out rfl) (fun _ _ e => e)
  have hP92 := Lib.hid hU92.out.here
  refine hKz.out _ _ (by first | exact hS | exact Below.trans hOn (Below.mono hnew (Below.size hOn))) (fun hNext => ?_)
  clear hKz Kz hOn
  have hOn := hNext
  clear hNext
  try clear hnew
  try clear hS
  try simp only [Act.put]
  refine wpAnyH_done (by kernel_rfl) ?_ _
  all_goals
    have hz9 : Hid (w92.heap[w.heap.size]? = some (.cells Tryd.zeroCells34 34 (0, 0))) := Lib.hid (hOn.heap hz8.out (by omega))
    have hbw9 := Lib.hid (hSB.out _ hOn)
    go_wp2_with (with_reducible refine wpList_load_row rfl 34 (.tmp 4) rfl (w.heap.size + 1) Y _ rfl hP92 hu rfl iY ?_)
    with_reducible refine (hck.out _).mono ?_
    rintro e wc ⟨rfl, hbc⟩
    have hzc := Lib.hid ((hbc.block _ (block_lt hz9.out)).trans hz9.out)
    have hPc := Lib.hid ((hbc.block _ (block_lt hP92.out)).trans hP92.out)
    have hbwc := Lib.hid (hbw9.out.trans (hbc.mono hbw9.out.size))
    clear hbc
    rcases hM0.out with hm0 | hm0
    · have hn0 : (M != 0) = false := by rw [hm0]; rfl
      replace hm0 := Lib.hid hm0
      go_wp2_with (first
        | (with_reducible refine wpList_load_row rfl 34 (.tmp 4) rfl (w.heap.size + 1) Y _ rfl hPc hu rfl iY ?_)
        | ((with_reducible show wpList _ _ _ (Oper.mk _ (Op.store 34 (.tmp 2) _) _ _ _ _ :: _) _ _); (refine wpList_store_row rfl 34 (.tmp 2) (.tmp 147) rfl w.heap.size _ Y rfl rfl hzc iY zY hYo ?_); intro w10 hU10))
      refine ret_cell_tmpB rfl rfl hu rfl iY hU10.out.here ?_
      exact hch.out.1 hm0.out _ (hbwc.out.trans (hU10.out.below (Nat.le_refl _)))
    · go_wp2_with (first
        | ((with_reducible show wpList _ _ _ (Oper.mk _ (Op.store 34 (.tmp 2) _) _ _ _ _ :: _) _ _); (refine wpList_store_row rfl 34 (.tmp 2) (.tmp 145) rfl w.heap.size _ Tryd.zeroCells34 rfl rfl hzc iZ rfl hZo ?_); intro w10 hU10))
      refine ret_cell_tmpB rfl rfl hu rfl iZ hU10.out.here ?_
      have hfin := hch.out.2 hm0 _ (hbwc.out.trans (hU10.out.below (Nat.le_refl _)))
      rw [← hZe.out M] at hfin
      exact hfin
end Go.Proofs.YtahnicbokdbjdaaDoor
