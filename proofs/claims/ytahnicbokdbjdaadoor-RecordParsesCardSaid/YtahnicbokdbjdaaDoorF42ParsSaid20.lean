/- baileeref20.Parse of whole bytes of kind 1. Printed by genrpars.py. -/
import Derived.Test.YtahnicbokdbjdaaDoorF40ParsSaid20
import Derived.Test.YtahnicbokdbjdaaDoorF41ParsSaid20
import Derived.Test.YtahnicbokdbjdaaDoorF20ParsSaid20
namespace Go.Proofs.YtahnicbokdbjdaaDoor
open Go.RowKit
set_option linter.unusedVariables false

theorem cells_cut {w : World} {b o c : Nat} {bs : List UInt8} (h : ArgB w (some ⟨b, o, none⟩) c bs) (k n : Nat) (hk : k + n ≤ bs.length) : ∀ j v, (cB (cut bs k n))[j]? = some v → w.cell? (Addr.add ⟨b, o + k, none⟩ j) = some v := by
  intro j v hv
  rw [show Addr.add ⟨b, o + k, none⟩ j = ⟨b, o + k + j, none⟩ from by simp [Addr.add]]
  obtain ⟨h1, h2⟩ := argB_cut h k n hk
  rw [cB, List.getElem?_map] at hv
  obtain ⟨x, hx, rfl⟩ := Option.map_eq_some_iff.1 hv
  obtain ⟨hj, e⟩ := List.getElem?_eq_some_iff.1 hx
  obtain ⟨b2, off, e2, hc⟩ := h1.row j hj
  cases e2
  rw [List.getD_eq_getElem?_getD, hx] at hc
  exact hc
theorem wpK_copyP {K : Act → World → Prop} {Q : Exit → Act → World → Prop} {o : Oper} {a : Act} {w : World} (d s : Operand) (ho : o.op = .call { callee := .builtin .copy, args := #[d, s], argTypes := #[36, 36] })
    (g off dLen dCap : Nat) (p : Addr) (sLen sCap : Nat) (cur : Array Value) (t : TypeId) (cs : List Value) (hd : a.eval d = .slice (some ⟨g, off, none⟩) dLen dCap) (hs : a.eval s = .slice (some p) sLen sCap)
    (hg : Hid (w.heap[g]? = some (.cells cur t (0, 0)))) (hn : cs.length = Nat.min sLen dLen) (hsrc : ∀ j v, cs[j]? = some v → w.cell? (p.add j) = some v) (hfit : off + cs.length ≤ cur.size) (h1 : ∀ v ∈ cs, v.oneCell' = true)
    (hK : ∀ w', Hid (Upd g (.cells (patch cur off cs) t (0, 0)) w w') → K (a.put o.dst (goInt cs.length)) w') : o.wp Tryd.prog a w K Q := by
  have hu : Tryd.prog.underlying 36 = some (.slice 5) := Tryd.underlying36
  have hsz : (Tryd.prog.info? 5).map (·.size) = some 1 := by kernel_rfl
  have hr := fun ty => run_copy_row (P := Tryd.prog) w 36 36 ty 5 g off dLen dCap p sLen sCap cur t cs hu hsz hg.out hn hsrc hfit h1
  have hU := Upd.setRow (cs := (cur.toList.take off ++ cs ++ cur.toList.drop (off + cs.length)).toArray) hg.out
  rw [List.append_assoc] at hU
  unfold Oper.wp execOp
  simp only [ho, resolve, invoke, builtin, Sem.run_bind, Sem.run_pure, Result.andThen_ok, List.map_toArray, List.map_cons, List.map_nil, hd, hs, hr, List.append_assoc]
  exact hK _ (Lib.hid hU)

def yR1 (bs : List UInt8) (m : Nat) (q : P6) : Rc := { Rc.ofKind 1 with obj := numR (cut bs 1 8) 0, tick := numR (cut bs (83 + m) 8) 0, name := ⟨(cut bs 10 m).toArray⟩, p := q, root := cut bs (19 + m) 32, file := cut bs (51 + m) 32 }

set_option maxRecDepth 100000 in
set_option maxHeartbeats 2000000 in
theorem rpars_full1 (bs : List UInt8) (b o c : Nat) (m : Nat) (q : P6) (y : Rc) (hyy : y = yR1 bs m q) (hy : y.Ok) (w : World) (ha : ArgB w (some ⟨b, o, none⟩) c bs) (hn : bs.length = (91 + m)) (hm : (91 + m) ≤ 1000) (hk : ((bs.getD 0 0).toNat : Int) = 1) (h9 : (bs.getD 9 0).toNat = m) (hpar : ∀ W, Below w.heap.size w W → Calls Tryd.prog 35 #[.slice (some ⟨b, o + (10 + m), none⟩) 9 (c - (10 + m))] W fun e w2 => e = .returned (.tuple #[.agg q.list.toArray, .int .i64 0]) ∧ Below W.heap.size W w2) : Calls Tryd.prog 16 #[.slice (some ⟨b, o, none⟩) (91 + m) c] w (RFull y w) := by
  have hca := fun W hW => cell_cut ha W hW
  have hnc := Lib.hid (fun W hW => num_cut ha (by omega) W hW)
  rw [hn] at hca
  rw [hn] at hnc
  have hbl : b < w.heap.size := argB_lt ha (by omega)
  have hbd := Lib.hid (build_kindR (1))
  have s78 : (Rc.ofKind (1)).list.toArray.size = 78 := by rw [List.size_toArray, Rc.len (x := Rc.ofKind (1)) z32_len z32_len]
  have i8 : (Tryd.prog.info? 34).map (·.size) = some (Rc.ofKind (1)).list.toArray.size := by rw [s78]; kernel_rfl
  have z8 : (Tryd.zeroCells34).size = (Rc.ofKind (1)).list.toArray.size := by rw [s78]; kernel_rfl
  have hVo := Rc.all_one (Rc.ofKind (1))
  have iZ : (Tryd.prog.info? 34).map (·.size) = some (Tryd.zeroCells34).size := by kernel_rfl
  have hZo : (Tryd.zeroCells34).all (·.oneCell') = true := by rw [Rc.zeroR]; exact Rc.all_one Rc.zero
  have hu := Tryd.underlying34
  have i1 : (Tryd.prog.info? 3).map (·.size) = some 1 := by kernel_rfl
  have hrk0 : ∀ (W : World) g, W.heap[g]? = some (.cells (Rc.ofKind (1)).list.toArray 34 (0, 0)) → W.cell? ⟨g, 0, none⟩ = some (.int .i64 (1)) := fun W g h => by rw [cell_of_block h]; rfl
  replace hrk0 := Lib.hid hrk0
  unfold yR1 at hyy
  have hm9 : m ≤ 255 := by have := (bs.getD 9 0).toNat_lt; omega
  have hno := Lib.hid (fun W hW => hnc.out W hW 1 8 (by omega))
  have hnt := Lib.hid (fun W hW => hnc.out W hW (83 + m) 8 (by omega))
  generalize numR (cut bs 1 8) 0 = vo at *
  generalize numR (cut bs (83 + m) 8) 0 = vt at *
  have h9c := fun W hW => hca W hW 9 (by omega)
  rw [h9] at h9c
  replace h9c := Lib.hid h9c
  have hst0 : (Rc.ofKind 1).list.toArray.setIfInBounds 1 (.int .i64 vo) = ({ Rc.ofKind 1 with obj := vo } : Rc).list.toArray := Rc.set1 (Rc.ofKind 1) vo
  have hj0 : 1 < (Rc.ofKind 1).list.toArray.size := by rw [List.size_toArray, Rc.len (x := Rc.ofKind 1) z32_len z32_len]; decide
  have hst1 : ({ Rc.ofKind 1 with obj := vo } : Rc).list.toArray.setIfInBounds 77 (.int .i64 vt) = ({ Rc.ofKind 1 with obj := vo, tick := vt } : Rc).list.toArray := Rc.set77 (x := ({ Rc.ofKind 1 with obj := vo } : Rc)) z32_len z32_len vt
  have hj1 : 77 < ({ Rc.ofKind 1 with obj := vo } : Rc).list.toArray.size := by rw [List.size_toArray, Rc.len (x := ({ Rc.ofKind 1 with obj := vo } : Rc)) z32_len z32_len]; decide
  obtain ⟨nm, hnm⟩ : ∃ nm : ByteArray, nm = ⟨(cut bs 10 m).toArray⟩ := ⟨_, rfl⟩
  rw [← hnm] at hyy
  have hst2 : ({ Rc.ofKind 1 with obj := vo, tick := vt } : Rc).list.toArray.setIfInBounds 3 (.string nm) = ({ Rc.ofKind 1 with obj := vo, tick := vt, name := nm } : Rc).list.toArray := Rc.set3 (({ Rc.ofKind 1 with obj := vo, tick := vt } : Rc)) nm
  have hj2 : 3 < ({ Rc.ofKind 1 with obj := vo, tick := vt } : Rc).list.toArray.size := by rw [List.size_toArray, Rc.len (x := ({ Rc.ofKind 1 with obj := vo, tick := vt } : Rc)) z32_len z32_len]; decide
  have hpt0 : patch ({ Rc.ofKind 1 with obj := vo, tick := vt, name := nm } : Rc).list.toArray 4 q.list.toArray.toList = ({ Rc.ofKind 1 with obj := vo, tick := vt, name := nm, p := q } : Rc).list.toArray := by rw [List.toList_toArray]; exact Rc.patch_p _ _
  have hps0 : 4 + q.list.toArray.size ≤ ({ Rc.ofKind 1 with obj := vo, tick := vt, name := nm } : Rc).list.toArray.size := by rw [List.size_toArray, List.size_toArray, Rc.len (x := ({ Rc.ofKind 1 with obj := vo, tick := vt, name := nm } : Rc)) z32_len z32_len, P6.len]; decide
  obtain ⟨rt, hrt⟩ : ∃ rt, rt = cut bs (19 + m) 32 := ⟨_, rfl⟩
  have hrl : rt.length = 32 := by rw [hrt]; exact (argB_cut ha (19 + m) 32 (by omega)).2
  rw [← hrt] at hyy
  have hpt1 : patch ({ Rc.ofKind 1 with obj := vo, tick := vt, name := nm, p := q } : Rc).list.toArray 10 (cB rt) = ({ Rc.ofKind 1 with obj := vo, tick := vt, name := nm, p := q, root := rt } : Rc).list.toArray := Rc.patch_root (x := ({ Rc.ofKind 1 with obj := vo, tick := vt, name := nm, p := q } : Rc)) z32_len hrl
  have hps1 : 10 + 32 ≤ ({ Rc.ofKind 1 with obj := vo, tick := vt, name := nm, p := q } : Rc).list.toArray.size := by rw [List.size_toArray, Rc.len (x := ({ Rc.ofKind 1 with obj := vo, tick := vt, name := nm, p := q } : Rc)) z32_len z32_len]; decide
  obtain ⟨fl, hfl⟩ : ∃ fl, fl = cut bs (51 + m) 32 := ⟨_, rfl⟩
  have hfll : fl.length = 32 := by rw [hfl]; exact (argB_cut ha (51 + m) 32 (by omega)).2
  rw [← hfl] at hyy
  have hpt2 : patch ({ Rc.ofKind 1 with obj := vo, tick := vt, name := nm, p := q, root := rt } : Rc).list.toArray 42 (cB fl) = ({ Rc.ofKind 1 with obj := vo, tick := vt, name := nm, p := q, root := rt, file := fl } : Rc).list.toArray := Rc.patch_file (x := ({ Rc.ofKind 1 with obj := vo, tick := vt, name := nm, p := q, root := rt } : Rc)) hrl z32_len hfll
  have hps2 : 42 + 32 ≤ ({ Rc.ofKind 1 with obj := vo, tick := vt, name := nm, p := q, root := rt } : Rc).list.toArray.size := by rw [List.size_toArray, Rc.len (x := ({ Rc.ofKind 1 with obj := vo, tick := vt, name := nm, p := q, root := rt } : Rc)) hrl z32_len]; decide
  have iY : (Tryd.prog.info? 34).map (·.size) = some y.list.toArray.size := by rw [Rc.size hy]; kernel_rfl
  have zY : (Tryd.zeroCells34).size = y.list.toArray.size := by rw [Rc.size hy]; kernel_rfl
  have hYo := Rc.all_one y
  have ip : (Tryd.prog.info? 32).map (·.size) = some q.list.toArray.size := by rw [List.size_toArray, P6.len]; kernel_rfl
  have zp : (#[.int .i64 0, .int .i64 0, .int .i64 0, .int .i64 0, .int .i64 0, .int .i64 0] : Array Value).size = q.list.toArray.size := Eq.symm (by rw [List.size_toArray, P6.len]; rfl)
  have op := arr_one (P6.one q)
  have hup := Tryd.underlying32
  have hck := Lib.hid (fun W => rcheck20_any y hy W)
  have hkY : ∀ (W : World) g, W.heap[g]? = some (.cells { Rc.ofKind 1 with obj := vo, tick := vt }.list.toArray 34 (0, 0)) → W.cell? ⟨g, 0, none⟩ = some (.int .i64 1) := fun W g h => by rw [cell_of_block h]; rfl
  have hch : Hid (((y.chk : Int) = 0 → ∀ W, Below w.heap.size w W → RFull y w (.returned (.tuple #[.agg y.list.toArray, .int .i64 0])) W) ∧ (((y.chk : Int) != 0) = true → ∀ W, Below w.heap.size w W → RFull y w (.returned (.tuple #[.agg Rc.zero.list.toArray, .int .i64 (y.chk : Int)])) W)) := Lib.hid ⟨fun e W hW => ⟨by rw [if_pos (by omega), e], hW⟩, fun e W hW => ⟨by rw [if_neg (by simpa using e)], hW⟩⟩
  have hM0 : Hid ((y.chk : Int) = 0 ∨ ((y.chk : Int) != 0) = true) := Lib.hid (by by_cases h : (y.chk : Int) = 0; exact .inl h; exact .inr (by simpa using h))
  rw [← hyy] at hpt2
  have hl1 : (cB rt).length = Nat.min 32 32 := by rw [cB_length, hrl]; rfl
  have hl2 : (cB fl).length = Nat.min 32 32 := by rw [cB_length, hfll]; rfl
  have hac := fun W (hW : Below w.heap.size w W) => ha.below hW
  have hbn : bs.length = 91 + m := hn
  replace hbn := Lib.hid hbn
  have hf1 := hps1
  have hf2 := hps2
  rw [← show (cB rt).length = 32 from hl1] at hf1
  rw [← show (cB fl).length = 32 from hl2] at hf2
  generalize (y.chk : Int) = M at *
  generalize hYl : y.list.toArray = Y at *
  generalize ({ Rc.ofKind 1 with obj := vo } : Rc).list.toArray = R1 at *
  generalize ({ Rc.ofKind 1 with obj := vo, tick := vt } : Rc).list.toArray = R2 at *
  generalize ({ Rc.ofKind 1 with obj := vo, tick := vt, name := nm } : Rc).list.toArray = R3 at *
  generalize ({ Rc.ofKind 1 with obj := vo, tick := vt, name := nm, p := q } : Rc).list.toArray = R4 at *
  generalize ({ Rc.ofKind 1 with obj := vo, tick := vt, name := nm, p := q, root := rt } : Rc).list.toArray = R5 at *
  generalize hPP : q.list.toArray = PP at *
  replace hkY := Lib.hid hkY
  replace hac := Lib.hid hac
  replace hpar := Lib.hid hpar
  clear hyy hYl hy
  replace hst0 := Lib.hid hst0
  replace hpt0 := Lib.hid hpt0
  replace hst1 := Lib.hid hst1
  replace hpt1 := Lib.hid hpt1
  replace hst2 := Lib.hid hst2
  replace hpt2 := Lib.hid hpt2
  have hcl : 91 + m ≤ c := by have := ha.len; omega
  replace hnm := Lib.hid hnm
  replace hrt := Lib.hid hrt
  replace hfl := Lib.hid hfl
  replace hrl := Lib.hid hrl
  replace hfll := Lib.hid hfll
  clear ha hn hm
  generalize hRK : (Rc.ofKind (1)).list.toArray = RK at *
  have hZe : Hid (∀ m : Int, Ending.returned (.tuple #[.agg Tryd.zeroCells34, .int .i64 m]) = Ending.returned (.tuple #[.agg Rc.zero.list.toArray, .int .i64 m])) := Lib.hid (fun v => by rw [Rc.zeroR])
  replace hRK := Lib.hid hRK
  have hz1 : Hid (((w.alloc (.cells Tryd.zeroCells34 34)).alloc (.cells Tryd.zeroCells34 34)).heap[w.heap.size]? = some (.cells Tryd.zeroCells34 34 (0, 0))) := Lib.hid (by rw [heapA9, if_neg (by simp), heapA9, if_pos rfl])
  have hZp : Hid (((w.alloc (.cells Tryd.zeroCells34 34)).alloc (.cells Tryd.zeroCells34 34)).heap[w.heap.size + 1]? = some (.cells Tryd.zeroCells34 34 (0, 0))) := Lib.hid (by rw [heapA9, if_pos (by simp)])
  have hb1 : Below w.heap.size w (w.alloc (.cells Tryd.zeroCells34 34)) := (Below.refl _ _).alloc (Nat.le_refl _) _
  have hb2 := Lib.hid (hb1.alloc (by simp) (.cells Tryd.zeroCells34 34))
  have hs2 : ((w.alloc (.cells Tryd.zeroCells34 34)).alloc (.cells Tryd.zeroCells34 34)).heap.size = w.heap.size + 2 := by simp
  replace hca := Lib.hid hca
  have hc0 := hca.out _ hb1 0 (by omega)
  rw [Nat.add_zero] at hc0
  replace hb1 := Lib.hid hb1
  replace hs2 := Lib.hid hs2
  rw [hk] at hc0
  clear hk
  go_enter Tryd.func16, Tryd.ntmps16
  go_wp2_with (first
    | ((with_reducible show wpList _ _ _ (Oper.mk _ (Op.build 34 _) _ _ _ _ :: _) _ _); refine wpList_buildV rfl 34 [(0, .tmp 17)] rfl [(0, .int .i64 (1))] rfl _ (hbd.out _) ?_)
    | ((with_reducible show wpList _ _ _ (Oper.mk _ (Op.store 34 (.tmp 4) _) _ _ _ _ :: _) _ _); (refine wpList_store_row rfl 34 (.tmp 4) (.tmp 18) rfl (w.heap.size + 1) _ RK rfl rfl hZp i8 z8 hVo ?_); intro w3 hU3; have hP3 := Lib.hid hU3.out.here; have hbw3 := Lib.hid (hb2.out.trans (hU3.out.below (by omega))); have hz3 := Lib.hid ((hU3.out.block _ (by omega)).trans hz1.out); have hs3 : w.heap.size + 2 = w3.heap.size := hs2.out.symm.trans hU3.out.size.symm; replace hs3 := Lib.hid hs3; have k0 := hrk0.out _ _ hP3.out; have hb4 : Below w3.heap.size w3 (w3.alloc (.cells #[.int .i64 0, .int .i64 0, .int .i64 30, .int .i64 26, .int .i64 17] 3)) := (Below.refl _ _).alloc (Nat.le_refl _) _; have hz4 := Lib.hid ((hb4.block _ (block_lt hz3.out)).trans hz3.out); have hP4 := Lib.hid ((hb4.block _ (block_lt hP3.out)).trans hP3.out); have hbw4 := Lib.hid (hbw3.out.trans (hb4.mono hbw3.out.size)); clear hb4; have k0f := hrk0.out _ _ hP4.out; have k9 := h9c.out _ hbw3.out; have k9f := h9c.out _ hbw4.out))
  obtain ⟨w4, hw4⟩ : ∃ W, W = w3.alloc (.cells #[.int .i64 0, .int .i64 0, .int .i64 30, .int .i64 26, .int .i64 17] 3) := ⟨_, rfl⟩
  rw [← hw4] at hz4 hP4 hbw4 k0f k9f ⊢
  have hs4 : w.heap.size + 2 ≤ w4.heap.size := by rw [hw4]; have := hs3.out; simp; omega
  clear hw4 k0 k0f k9
  have k0 := hrk0.out _ _ hP4.out
  obtain ⟨M8, hM8⟩ : ∃ M8 : Nat, M8 = 83 + m := ⟨_, rfl⟩
  rw [show (10 + (m : Int) + 9 + 64 + 8) = (M8 : Int) + 8 from by omega]
  have hcm : M8 + 8 ≤ c := by omega
  have hcm2 : (M8 : Int) ≤ (c : Int) := by omega
  have hcm3 : ¬ (c = M8) := by omega
  have e9 : IntKind.i64.wrap (10 + (m : Int) + 9) = 10 + (m : Int) + 9 := IntWalk.i64_in _ (by omega)
  have e41 : IntKind.i64.wrap (10 + (m : Int) + 41) = 10 + (m : Int) + 41 := IntWalk.i64_in _ (by omega)
  have e73 : IntKind.i64.wrap (10 + (m : Int) + 73) = 10 + (m : Int) + 73 := IntWalk.i64_in _ (by omega)
  have is1 : (Tryd.prog.info? 9).map (·.size) = some 1 := by kernel_rfl
  with_reducible refine (hno.out _ hbw4.out).mono ?_
  rintro e w5 ⟨rfl, hx5⟩
  obtain rfl := hx5.symm
  go_wp2_with ((with_reducible show wpList _ _ _ (Oper.mk _ (Op.store 3 (.tmp 61) _) _ _ _ _ :: _) _ _); (refine wpList_store_oneU rfl 3 34 (.tmp 61) (.tmp 60) rfl (w.heap.size + 1) 1 RK (.int .i64 vo) rfl rfl hP4 hj0 i1 rfl ?_); intro w6 hU6; rw [hst0.out] at hU6; have hP6 := Lib.hid hU6.out.here; have hz6 := Lib.hid ((hU6.out.block _ (by omega)).trans hz4.out); have hbw6 := Lib.hid (hbw4.out.trans (hU6.out.below (by omega))))
  rw [show 91 + m - (83 + m) = 8 from by omega]
  with_reducible refine (hnt.out _ hbw6.out).mono ?_
  rintro e w7 ⟨rfl, hx7⟩
  obtain rfl := hx7.symm
  go_wp2_with (first
    | ((with_reducible show wpList _ _ _ (Oper.mk _ (Op.store 3 (.tmp 67) _) _ _ _ _ :: _) _ _); (refine wpList_store_oneU rfl 3 34 (.tmp 67) (.tmp 66) rfl (w.heap.size + 1) 77 R1 (.int .i64 vt) rfl rfl hP6 hj1 i1 rfl ?_); intro w8 hU8; rw [hst1.out] at hU8; have hP8 := Lib.hid hU8.out.here; have hz8 := Lib.hid ((hU8.out.block _ (by omega)).trans hz6.out); have hbw8 := Lib.hid (hbw6.out.trans (hU8.out.below (by omega))); have k1 := hkY.out _ _ hP8.out; have k91 := h9c.out _ hbw8.out; have cvn := convB (argB_cut (hac.out _ hbw8.out) 10 m (by rw [hbn.out]; omega)).1 m (argB_cut (hac.out _ hbw8.out) 10 m (by rw [hbn.out]; omega)).2; rw [← hnm.out] at cvn)
    | ((with_reducible show wpList _ _ _ (Oper.mk _ (Op.store 9 (.tmp 81) _) _ _ _ _ :: _) _ _); (refine wpList_store_oneU rfl 9 34 (.tmp 81) (.tmp 80) rfl (w.heap.size + 1) 3 R2 (.string nm) rfl rfl hP8 hj2 is1 rfl ?_); intro w9 hU9; rw [hst2.out] at hU9; have hP9 := Lib.hid hU9.out.here; have hz9 := Lib.hid ((hU9.out.block _ (by omega)).trans hz8.out); have hbw9 := Lib.hid (hbw8.out.trans (hU9.out.below (by omega)))))
  with_reducible refine (hpar.out _ hbw9.out).mono ?_
  rintro e w10 ⟨rfl, hb10⟩
  have hP10 := Lib.hid ((hb10.block _ (block_lt hP9.out)).trans hP9.out)
  have hz10 := Lib.hid ((hb10.block _ (block_lt hz9.out)).trans hz9.out)
  have hbw10 := Lib.hid (hbw9.out.trans (hb10.mono hbw9.out.size))
  have hs10 : w.heap.size ≤ w10.heap.size := hbw10.out.size
  clear hb10 k1 k91 cvn
  have hZ7 := Lib.hid (heap_alloc_new w10 (.cells #[.int .i64 0, .int .i64 0, .int .i64 0, .int .i64 0, .int .i64 0, .int .i64 0] 32))
  go_wp2_with (first
    | ((with_reducible show wpList _ _ _ (Oper.mk _ (Op.store 32 (.tmp 7) _) _ _ _ _ :: _) _ _); (refine wpList_store_row rfl 32 (.tmp 7) (.tmp 89) rfl w10.heap.size _ PP rfl rfl hZ7 ip zp op ?_); intro w11 hU11; have hb11 := Lib.hid ((Below.alloc (Below.refl w10.heap.size w10) (Nat.le_refl _) _).trans (hU11.out.below (Nat.le_refl _))); have hP11 := Lib.hid ((hb11.out.block _ (block_lt hP10.out)).trans hP10.out); have hz11 := Lib.hid ((hb11.out.block _ (block_lt hz10.out)).trans hz10.out); have hbw11 := Lib.hid (hbw10.out.trans (hb11.out.mono hbw10.out.size)); have hp11 := Lib.hid hU11.out.here)
    | ((with_reducible show wpList _ _ _ (Oper.mk _ (Op.load 32 (.tmp 7)) _ _ _ _ :: _) _ _); refine wpList_load_row rfl 32 (.tmp 7) rfl w10.heap.size PP _ rfl hp11 hup rfl ip ?_)
    | ((with_reducible show wpList _ _ _ (Oper.mk _ (Op.store 32 (.tmp 96) _) _ _ _ _ :: _) _ _); (refine wpList_store_midU rfl 32 34 (.tmp 96) (.tmp 95) rfl (w.heap.size + 1) 4 R3 PP rfl rfl hP11 ip hps0 op ?_); intro w12 hU12; rw [hpt0.out] at hU12; have hP12 := Lib.hid hU12.out.here; have hz12 := Lib.hid ((hU12.out.block _ (by omega)).trans hz11.out); have hbw12 := Lib.hid (hbw11.out.trans (hU12.out.below (by omega)))))

  have hda : Hid (Only (fun k => k = w.heap.size + 1) w12 w12.drew) := Lib.hid (Only.refl _ _).drew
  have hSBa : Hid (∀ W, Only (fun k => k = w.heap.size + 1) w12 W → Below w.heap.size w W) := Lib.hid (fun W h => hbw12.out.trans (h.below hbw12.out.size (fun k e => by omega)))
  have hPda : Hid (w12.drew.heap[w.heap.size + 1]? = some (.cells R4 34 (0, 0))) := Lib.hid hP12.out
  have hsra : Hid (∀ W, Only (fun k => k = w.heap.size + 1) w12 W → ∀ j v, (cB rt)[j]? = some v → W.cell? (Addr.add ⟨b, o + (10 + m + 9), none⟩ j) = some v) := Lib.hid (fun W h => by rw [hrt.out, show o + (10 + m + 9) = o + (19 + m) from by omega]; exact cells_cut (hac.out W (hSBa.out W h)) (19 + m) 32 (by rw [hbn.out]; omega))
  refine wp_region_held_drew (S := (Only (fun k => k = w.heap.size + 1) w12)) (by kernel_rfl) hda.out (fun hOn => ?_)
  generalize World.drew w12 = wd at *
  refine wpAnyH_take (i := 0) (v := ?_) (by simp only [List.getElem?_toArray, List.getElem?_cons_zero]; rfl) (by kernel_rfl) (by kernel_rfl) (by kernel_rfl) (by exact fun _ _ _ h => h) (Or.inl ⟨by rfl, ?_⟩) hOn ?_
  rotate_left
  focus (intro W hSW; go_simp; try with_reducible rfl)
  try simp only [Act.put, List.setIfInBounds_toArray, List.set_cons_zero, List.set_cons_succ]
  refine wpAnyH_take (i := 1) (v := ?_) (by simp only [List.getElem?_toArray, List.getElem?_cons_succ, List.getElem?_cons_zero]; rfl) (by kernel_rfl) (by kernel_rfl) (by kernel_rfl) (by exact fun _ _ _ h => h) (Or.inl ⟨by rfl, ?_⟩) hOn ?_
  rotate_left
  focus (intro W hSW; go_simp; try with_reducible rfl)
  try simp only [Act.put, List.setIfInBounds_toArray, List.set_cons_zero, List.set_cons_succ]
  refine wpAnyH_take (i := 2) (v := ?_) (by simp only [List.getElem?_toArray, List.getElem?_cons_succ, List.getElem?_cons_zero]; rfl) (by kernel_rfl) (by kernel_rfl) (by kernel_rfl) (by exact fun _ _ _ h => h) (Or.inl ⟨by rfl, ?_⟩) hOn ?_
  rotate_left
  focus (intro W hSW; go_simp; try with_reducible rfl)
  try simp only [Act.put, List.setIfInBounds_toArray, List.set_cons_zero, List.set_cons_succ]
  refine wpAnyH_take (i := 3) (v := ?_) (by simp only [List.getElem?_toArray, List.getElem?_cons_succ, List.getElem?_cons_zero]; rfl) (by kernel_rfl) (by kernel_rfl) (by kernel_rfl) (by exact fun _ _ _ h => h) (Or.inl ⟨by rfl, ?_⟩) hOn ?_
  rotate_left
  focus (intro W hSW; go_simp; try with_reducible rfl)
  try simp only [Act.put, List.setIfInBounds_toArray, List.set_cons_zero, List.set_cons_succ]
  refine wpAnyH_take (i := 4) (v := ?_) (by simp only [List.getElem?_toArray, List.getElem?_cons_succ, List.getElem?_cons_zero]; rfl) (by kernel_rfl) (by kernel_rfl) (by kernel_rfl) (by exact fun _ _ _ h => h) (Or.inl ⟨by rfl, ?_⟩) hOn ?_
  rotate_left
  focus (intro W hSW; go_simp; try with_reducible rfl)
  try simp only [Act.put, List.setIfInBounds_toArray, List.set_cons_zero, List.set_cons_succ]
  refine wpAnyH_take (i := 5) (v := ?_) (by simp only [List.getElem?_toArray, List.getElem?_cons_succ, List.getElem?_cons_zero]; rfl) (by kernel_rfl) (by kernel_rfl) (by kernel_rfl) (by exact fun _ _ _ h => h) (Or.inl ⟨by rfl, ?_⟩) hOn ?_
  rotate_left
  focus (intro W hSW; go_simp; try with_reducible rfl)
  try simp only [Act.put, List.setIfInBounds_toArray, List.set_cons_zero, List.set_cons_succ]
  refine wpAnyH_take (i := 6) (v := ?_) (by simp only [List.getElem?_toArray, List.getElem?_cons_succ, List.getElem?_cons_zero]; rfl) (by kernel_rfl) (by kernel_rfl) (by kernel_rfl) (by exact fun _ _ _ h => h) (Or.inl ⟨by rfl, ?_⟩) hOn ?_
  rotate_left
  focus (intro W hSW; go_simp; try with_reducible rfl)
  try simp only [Act.put, List.setIfInBounds_toArray, List.set_cons_zero, List.set_cons_succ]
  refine wpAnyH_ready (rs := [7]) (by kernel_rfl) (by simp) ?_
  refine AllReadyH.cons (by simp only [List.getElem?_toArray, List.getElem?_cons_succ, List.getElem?_cons_zero]; rfl) (fun Kz hKz => ?_) AllReadyH.nil
  go_simp
  focus (try go_wp2_with fail)
  refine hKz.out _ _ (by first | exact hOn | exact Grown.alloc hOn _ | exact Below.alloc hOn (Below.size hOn) _ | exact Grown.alloc (Grown.refl _) _) (fun hNext => ?_)
  clear hKz Kz hOn
  have hOn := hNext
  clear hNext
  try simp only [Act.put, List.setIfInBounds_toArray, List.set_cons_zero, List.set_cons_succ]
  refine wpAnyH_ready (rs := [8]) (by kernel_rfl) (by simp) ?_
  refine AllReadyH.cons (by simp only [List.getElem?_toArray, List.getElem?_cons_succ, List.getElem?_cons_zero]; rfl) (fun Kz hKz => ?_) AllReadyH.nil
  rw [if_pos (by rfl)]
  (refine wpK_copyP (.tmp 98) (.tmp 104) rfl (w.heap.size + 1) 10 32 32 ⟨b, o + (10 + m + 9), none⟩ 32 (c - (10 + m + 9)) R4 34 (cB rt) rfl rfl hPda hl1 (hsra.out _ hOn) hf1 (cB_one rt) ?_)
  intro w13 hU13
  rw [hpt1.out] at hU13
  have hS := hOn.trans (Only.ofUpd (D := fun k => k = w.heap.size + 1) hU13.out rfl) (fun _ _ e => e)
  have hP13 := Lib.hid hU13.out.here
  refine hKz.out _ _ (by first | exact hS | exact Below.trans hOn (Below.mono hnew (Below.size hOn))) (fun hNext => ?_)
  clear hKz Kz hOn
  have hOn := hNext
  clear hNext
  try clear hnew
  try clear hS
  try simp only [Act.put]
  refine wpAnyH_done (by kernel_rfl) ?_ _
  all_goals
    have hz13 := Lib.hid (hOn.heap hz12.out (by omega))
    have hbw13 := Lib.hid (hSBa.out _ hOn)
    clear hOn hSBa hda hPda hsra
    go_wp2_with fail

    have hdb : Hid (Only (fun k => k = w.heap.size + 1) w13 w13.drew) := Lib.hid (Only.refl _ _).drew
    have hSBb : Hid (∀ W, Only (fun k => k = w.heap.size + 1) w13 W → Below w.heap.size w W) := Lib.hid (fun W h => hbw13.out.trans (h.below hbw13.out.size (fun k e => by omega)))
    have hPdb : Hid (w13.drew.heap[w.heap.size + 1]? = some (.cells R5 34 (0, 0))) := Lib.hid hP13.out
    have hsrb : Hid (∀ W, Only (fun k => k = w.heap.size + 1) w13 W → ∀ j v, (cB fl)[j]? = some v → W.cell? (Addr.add ⟨b, o + (10 + m + 41), none⟩ j) = some v) := Lib.hid (fun W h => by rw [hfl.out, show o + (10 + m + 41) = o + (51 + m) from by omega]; exact cells_cut (hac.out W (hSBb.out W h)) (51 + m) 32 (by rw [hbn.out]; omega))
    refine wp_region_held_drew (S := (Only (fun k => k = w.heap.size + 1) w13)) (by kernel_rfl) hdb.out (fun hOn => ?_)
    generalize World.drew w13 = wd at *
    refine wpAnyH_take (i := 0) (v := ?_) (by simp only [List.getElem?_toArray, List.getElem?_cons_zero]; rfl) (by kernel_rfl) (by kernel_rfl) (by kernel_rfl) (by exact fun _ _ _ h => h) (Or.inl ⟨by rfl, ?_⟩) hOn ?_
    rotate_left
    focus (intro W hSW; go_simp; try with_reducible rfl)
    try simp only [Act.put, List.setIfInBounds_toArray, List.set_cons_zero, List.set_cons_succ]
    refine wpAnyH_take (i := 1) (v := ?_) (by simp only [List.getElem?_toArray, List.getElem?_cons_succ, List.getElem?_cons_zero]; rfl) (by kernel_rfl) (by kernel_rfl) (by kernel_rfl) (by exact fun _ _ _ h => h) (Or.inl ⟨by rfl, ?_⟩) hOn ?_
    rotate_left
    focus (intro W hSW; go_simp; try with_reducible rfl)
    try simp only [Act.put, List.setIfInBounds_toArray, List.set_cons_zero, List.set_cons_succ]
    refine wpAnyH_take (i := 2) (v := ?_) (by simp only [List.getElem?_toArray, List.getElem?_cons_succ, List.getElem?_cons_zero]; rfl) (by kernel_rfl) (by kernel_rfl) (by kernel_rfl) (by exact fun _ _ _ h => h) (Or.inl ⟨by rfl, ?_⟩) hOn ?_
    rotate_left
    focus (intro W hSW; go_simp; try with_reducible rfl)
    try simp only [Act.put, List.setIfInBounds_toArray, List.set_cons_zero, List.set_cons_succ]
    refine wpAnyH_take (i := 3) (v := ?_) (by simp only [List.getElem?_toArray, List.getElem?_cons_succ, List.getElem?_cons_zero]; rfl) (by kernel_rfl) (by kernel_rfl) (by kernel_rfl) (by exact fun _ _ _ h => h) (Or.inl ⟨by rfl, ?_⟩) hOn ?_
    rotate_left
    focus (intro W hSW; go_simp; try with_reducible rfl)
    try simp only [Act.put, List.setIfInBounds_toArray, List.set_cons_zero, List.set_cons_succ]
    refine wpAnyH_take (i := 4) (v := ?_) (by simp only [List.getElem?_toArray, List.getElem?_cons_succ, List.getElem?_cons_zero]; rfl) (by kernel_rfl) (by kernel_rfl) (by kernel_rfl) (by exact fun _ _ _ h => h) (Or.inl ⟨by rfl, ?_⟩) hOn ?_
    rotate_left
    focus (intro W hSW; go_simp; try with_reducible rfl)
    try simp only [Act.put, List.setIfInBounds_toArray, List.set_cons_zero, List.set_cons_succ]
    refine wpAnyH_take (i := 5) (v := ?_) (by simp only [List.getElem?_toArray, List.getElem?_cons_succ, List.getElem?_cons_zero]; rfl) (by kernel_rfl) (by kernel_rfl) (by kernel_rfl) (by exact fun _ _ _ h => h) (Or.inl ⟨by rfl, ?_⟩) hOn ?_
    rotate_left
    focus (intro W hSW; go_simp; try with_reducible rfl)
    try simp only [Act.put, List.setIfInBounds_toArray, List.set_cons_zero, List.set_cons_succ]
    refine wpAnyH_take (i := 6) (v := ?_) (by simp only [List.getElem?_toArray, List.getElem?_cons_succ, List.getElem?_cons_zero]; rfl) (by kernel_rfl) (by kernel_rfl) (by kernel_rfl) (by exact fun _ _ _ h => h) (Or.inl ⟨by rfl, ?_⟩) hOn ?_
    rotate_left
    focus (intro W hSW; go_simp; try with_reducible rfl)
    try simp only [Act.put, List.setIfInBounds_toArray, List.set_cons_zero, List.set_cons_succ]
    refine wpAnyH_ready (rs := [7]) (by kernel_rfl) (by simp) ?_
    refine AllReadyH.cons (by simp only [List.getElem?_toArray, List.getElem?_cons_succ, List.getElem?_cons_zero]; rfl) (fun Kz hKz => ?_) AllReadyH.nil
    go_simp
    focus (try go_wp2_with fail)
    refine hKz.out _ _ (by first | exact hOn | exact Grown.alloc hOn _ | exact Below.alloc hOn (Below.size hOn) _ | exact Grown.alloc (Grown.refl _) _) (fun hNext => ?_)
    clear hKz Kz hOn
    have hOn := hNext
    clear hNext
    try simp only [Act.put, List.setIfInBounds_toArray, List.set_cons_zero, List.set_cons_succ]
    refine wpAnyH_ready (rs := [8]) (by kernel_rfl) (by simp) ?_
    refine AllReadyH.cons (by simp only [List.getElem?_toArray, List.getElem?_cons_succ, List.getElem?_cons_zero]; rfl) (fun Kz hKz => ?_) AllReadyH.nil
    rw [if_pos (by rfl)]
    (refine wpK_copyP (.tmp 107) (.tmp 113) rfl (w.heap.size + 1) 42 32 32 ⟨b, o + (10 + m + 41), none⟩ 32 (c - (10 + m + 41)) R5 34 (cB fl) rfl rfl hPdb hl2 (hsrb.out _ hOn) hf2 (cB_one fl) ?_)
    intro w14 hU14
    rw [hpt2.out] at hU14
    have hS := hOn.trans (Only.ofUpd (D := fun k => k = w.heap.size + 1) hU14.out rfl) (fun _ _ e => e)
    have hP14 := Lib.hid hU14.out.here
    refine hKz.out _ _ (by first | exact hS | exact Below.trans hOn (Below.mono hnew (Below.size hOn))) (fun hNext => ?_)
    clear hKz Kz hOn
    have hOn := hNext
    clear hNext
    try clear hnew
    try clear hS
    try simp only [Act.put]
    refine wpAnyH_done (by kernel_rfl) ?_ _
    all_goals
      have hz14 := Lib.hid (hOn.heap hz13.out (by omega))
      have hbw14 := Lib.hid (hSBb.out _ hOn)
      clear hOn hSBb hdb hPdb hsrb
      go_wp2_with (with_reducible refine wpList_load_row rfl 34 (.tmp 4) rfl (w.heap.size + 1) Y _ rfl hP14 hu rfl iY ?_)

      with_reducible refine (hck.out _).mono ?_
      rintro e wc ⟨rfl, hbc⟩
      have hzc := Lib.hid ((hbc.block _ (block_lt hz14.out)).trans hz14.out)
      have hPc := Lib.hid ((hbc.block _ (block_lt hP14.out)).trans hP14.out)
      have hbwc := Lib.hid (hbw14.out.trans (hbc.mono hbw14.out.size))
      clear hbc
      rcases hM0.out with hm0 | hm0
      · have hn0 : (M != 0) = false := by rw [hm0]; rfl
        replace hm0 := Lib.hid hm0
        go_wp2_with (first
          | (with_reducible refine wpList_load_row rfl 34 (.tmp 4) rfl (w.heap.size + 1) Y _ rfl hPc hu rfl iY ?_)
          | ((with_reducible show wpList _ _ _ (Oper.mk _ (Op.store 34 (.tmp 2) _) _ _ _ _ :: _) _ _); (refine wpList_store_row rfl 34 (.tmp 2) (.tmp 147) rfl w.heap.size _ Y rfl rfl hzc iY zY hYo ?_); intro w15 hU15))
        refine ret_cell_tmpB rfl rfl hu rfl iY hU15.out.here ?_
        exact hch.out.1 hm0.out _ (hbwc.out.trans (hU15.out.below (Nat.le_refl _)))
      · go_wp2_with (first
          | ((with_reducible show wpList _ _ _ (Oper.mk _ (Op.store 34 (.tmp 2) _) _ _ _ _ :: _) _ _); (refine wpList_store_row rfl 34 (.tmp 2) (.tmp 145) rfl w.heap.size _ Tryd.zeroCells34 rfl rfl hzc iZ rfl hZo ?_); intro w10 hU10))
        refine ret_cell_tmpB rfl rfl hu rfl iZ hU10.out.here ?_
        have hfin := hch.out.2 hm0 _ (hbwc.out.trans (hU10.out.below (Nat.le_refl _)))
        rw [← hZe.out M] at hfin
        exact hfin
end Go.Proofs.YtahnicbokdbjdaaDoor
