/- baileeref20.Parse of bytes that are too short, too long, of no kind. Printed by genrpars.py. -/
import Derived.Test.YtahnicbokdbjdaaDoorF31ParsSaid20
import Derived.Test.YtahnicbokdbjdaaDoorF39ParsSaid20
import Derived.Test.YtahnicbokdbjdaaDoorF29ParsSaid20
import Derived.Lib.SlBuf
namespace Go.Proofs.YtahnicbokdbjdaaDoor
open Go.RowKit
set_option linter.unusedVariables false

set_option maxRecDepth 100000 in
theorem build_kindR (k : Int) (W : World) : (Instr.build 34 #[(0, .int .i64 k)]).run Tryd.prog W = .ok (.agg (Rc.ofKind k).list.toArray) W := by
  refine run_build W _ _ _ ?_
  kernel_rfl
set_option maxRecDepth 100000 in
theorem build_zeroR (W : World) : (Instr.build 34 #[]).run Tryd.prog W = .ok (.agg Rc.zero.list.toArray) W := by
  refine run_build W _ _ _ ?_
  kernel_rfl
theorem one_i64 {x : Int} : (Value.int .i64 x).oneCell' = true := rfl
def RPost (y : Rc) (m : Int) (w : World) (e : Ending) (w' : World) : Prop := e = .returned (.tuple #[.agg y.list.toArray, .int .i64 m]) ∧ Below w.heap.size w w'
theorem argB_lt {w : World} {b o c : Nat} {bs : List UInt8} (h : ArgB w (some ⟨b, o, none⟩) c bs) (h0 : 0 < bs.length) : b < w.heap.size := by
  obtain ⟨b2, off, e, hc⟩ := h.row 0 h0
  cases e
  exact World.block_lt_of_cell? w _ hc
def RFull (y : Rc) (w : World) (e : Ending) (w' : World) : Prop := RPost (if y.chk = 0 then y else Rc.zero) y.chk w e w'
def cut (bs : List UInt8) (o m : Nat) : List UInt8 := (bs.drop o).take m
theorem argB_cut {w : World} {b o c : Nat} {bs : List UInt8} (h : ArgB w (some ⟨b, o, none⟩) c bs) (k m : Nat) (hk : k + m ≤ bs.length) : ArgB w (some ⟨b, o + k, none⟩) (c - k) (cut bs k m) ∧ (cut bs k m).length = m := by
  have h1 := (argB_sub (n := k) h (by omega)).2
  have h2 := (argB_sub (n := m) h1 (by rw [List.length_drop]; omega)).1
  exact ⟨h2, by unfold cut; rw [List.length_take, List.length_drop]; omega⟩
theorem num_cut {w : World} {b o c : Nat} {bs : List UInt8} (h : ArgB w (some ⟨b, o, none⟩) c bs) (hm : bs.length ≤ 1000) (W : World) (hW : Below w.heap.size w W) (k m : Nat) (hk : k + m ≤ bs.length) :
    Calls Tryd.prog 34 #[.slice (some ⟨b, o + k, none⟩) m (c - k)] W fun e w' => e = .returned (.int .i64 (numR (cut bs k m) 0)) ∧ W = w' := by
  obtain ⟨h1, h2⟩ := argB_cut h k m hk
  have := rnumber_any _ _ _ W (h1.below hW) (by omega)
  rw [h2] at this
  exact this
theorem cell_cut {w : World} {b o c : Nat} {bs : List UInt8} (h : ArgB w (some ⟨b, o, none⟩) c bs) (W : World) (hW : Below w.heap.size w W) (i : Nat) (hi : i < bs.length) : W.cell? ⟨b, o + i, none⟩ = some (.int .u8 ((bs.getD i 0).toNat : Int)) := by
  obtain ⟨b2, off, e, hc⟩ := (h.below hW).row i hi
  cases e
  exact hc

set_option maxRecDepth 100000 in
set_option maxHeartbeats 2000000 in
theorem rpars_empty (a : Option Addr) (c : Nat) (w : World) : Calls Tryd.prog 16 #[.slice a 0 c] w (RPost Rc.zero 2 w) := by
  have iZ : (Tryd.prog.info? 34).map (·.size) = some (Tryd.zeroCells34).size := by kernel_rfl
  have hZo : (Tryd.zeroCells34).all (·.oneCell') = true := by rw [Rc.zeroR]; exact Rc.all_one Rc.zero
  have hu := Tryd.underlying34
  have hZe : Hid (∀ m : Int, Ending.returned (.tuple #[.agg Tryd.zeroCells34, .int .i64 m]) = Ending.returned (.tuple #[.agg Rc.zero.list.toArray, .int .i64 m])) := Lib.hid (fun v => by rw [Rc.zeroR])
  have hz1 := Lib.hid (heap_alloc_new w (.cells Tryd.zeroCells34 34))
  have hb1 := Lib.hid (show Below w.heap.size w (w.alloc (.cells Tryd.zeroCells34 34)) from (Below.refl _ _).alloc (Nat.le_refl _) _)
  go_enter Tryd.func16, Tryd.ntmps16
  go_wp2_with (first
    | ((with_reducible show wpList _ _ _ (Oper.mk _ (Op.store 34 (.tmp 2) _) _ _ _ _ :: _) _ _); (refine wpList_store_row rfl 34 (.tmp 2) (.tmp 13) rfl w.heap.size _ Tryd.zeroCells34 rfl rfl hz1 iZ rfl hZo ?_); intro w10 hU10))
  refine ret_cell_tmpB rfl rfl hu rfl iZ hU10.out.here ?_
  exact ⟨hZe.out 2, hb1.out.trans (hU10.out.below (Nat.le_refl _))⟩

set_option maxRecDepth 100000 in
set_option maxHeartbeats 2000000 in
theorem rpars_kind (bs : List UInt8) (b o c n : Nat) (k : Int) (w : World) (ha : ArgB w (some ⟨b, o, none⟩) c bs) (hn : bs.length = n) (hm : n ≤ 1000) (h0 : 0 < n) (hk : ((bs.getD 0 0).toNat : Int) = k) (hk1 : inB k 1 4 = false) : Calls Tryd.prog 16 #[.slice (some ⟨b, o, none⟩) n c] w (RPost Rc.zero 7 w) := by
  have hca := fun W hW => cell_cut ha W hW
  have hnc := Lib.hid (fun W hW => num_cut ha (by omega) W hW)
  rw [hn] at hca
  rw [hn] at hnc
  have hbl : b < w.heap.size := argB_lt ha (by omega)
  have hbd := Lib.hid (build_kindR (k))
  have s78 : (Rc.ofKind (k)).list.toArray.size = 78 := by rw [List.size_toArray, Rc.len (x := Rc.ofKind (k)) z32_len z32_len]
  have i8 : (Tryd.prog.info? 34).map (·.size) = some (Rc.ofKind (k)).list.toArray.size := by rw [s78]; kernel_rfl
  have z8 : (Tryd.zeroCells34).size = (Rc.ofKind (k)).list.toArray.size := by rw [s78]; kernel_rfl
  have hVo := Rc.all_one (Rc.ofKind (k))
  have iZ : (Tryd.prog.info? 34).map (·.size) = some (Tryd.zeroCells34).size := by kernel_rfl
  have hZo : (Tryd.zeroCells34).all (·.oneCell') = true := by rw [Rc.zeroR]; exact Rc.all_one Rc.zero
  have hu := Tryd.underlying34
  have i1 : (Tryd.prog.info? 3).map (·.size) = some 1 := by kernel_rfl
  have hrk0 : ∀ (W : World) g, W.heap[g]? = some (.cells (Rc.ofKind (k)).list.toArray 34 (0, 0)) → W.cell? ⟨g, 0, none⟩ = some (.int .i64 (k)) := fun W g h => by rw [cell_of_block h]; rfl
  replace hrk0 := Lib.hid hrk0
  generalize hRK : (Rc.ofKind (k)).list.toArray = RK at *
  have hZe : Hid (∀ m : Int, Ending.returned (.tuple #[.agg Tryd.zeroCells34, .int .i64 m]) = Ending.returned (.tuple #[.agg Rc.zero.list.toArray, .int .i64 m])) := Lib.hid (fun v => by rw [Rc.zeroR])
  replace hRK := Lib.hid hRK
  have hz1 : Hid (((w.alloc (.cells Tryd.zeroCells34 34)).alloc (.cells Tryd.zeroCells34 34)).heap[w.heap.size]? = some (.cells Tryd.zeroCells34 34 (0, 0))) := Lib.hid (by rw [heapA9, if_neg (by simp), heapA9, if_pos rfl])
  have hZp : Hid (((w.alloc (.cells Tryd.zeroCells34 34)).alloc (.cells Tryd.zeroCells34 34)).heap[w.heap.size + 1]? = some (.cells Tryd.zeroCells34 34 (0, 0))) := Lib.hid (by rw [heapA9, if_pos (by simp)])
  have hb1 : Below w.heap.size w (w.alloc (.cells Tryd.zeroCells34 34)) := (Below.refl _ _).alloc (Nat.le_refl _) _
  have hb2 := Lib.hid (hb1.alloc (by simp) (.cells Tryd.zeroCells34 34))
  have hs2 : ((w.alloc (.cells Tryd.zeroCells34 34)).alloc (.cells Tryd.zeroCells34 34)).heap.size = w.heap.size + 2 := by simp
  replace hca := Lib.hid hca
  have hc0 := hca.out _ hb1 0 (by omega)
  rw [Nat.add_zero] at hc0
  replace hb1 := Lib.hid hb1
  replace hs2 := Lib.hid hs2
  rw [hk] at hc0
  have hkk : ¬ (1 ≤ k ∧ k ≤ 4) := by unfold inB at hk1; simpa using hk1
  have hkb : 0 ≤ k ∧ k ≤ 255 := by have := (bs.getD 0 0).toNat_lt; omega
  obtain ⟨L, hL⟩ : ∃ L : Int, (n : Int) = L := ⟨_, rfl⟩
  clear hk1
  have hL0 : 0 < L := by omega
  have hL1 : L ≤ 1000 := by omega
  clear hn hm hk h0
  go_enter Tryd.func16, Tryd.ntmps16
  go_wp2_with (first
    | ((with_reducible show wpList _ _ _ (Oper.mk _ (Op.build 34 _) _ _ _ _ :: _) _ _); refine wpList_buildV rfl 34 [(0, .tmp 17)] rfl [(0, .int .i64 (k))] rfl _ (hbd.out _) ?_)
    | ((with_reducible show wpList _ _ _ (Oper.mk _ (Op.store 34 (.tmp 4) _) _ _ _ _ :: _) _ _); (refine wpList_store_row rfl 34 (.tmp 4) (.tmp 18) rfl (w.heap.size + 1) _ RK rfl rfl hZp i8 z8 hVo ?_); intro w3 hU3; have hP3 := Lib.hid hU3.out.here; have hbw3 := Lib.hid (hb2.out.trans (hU3.out.below (by omega))); have hz3 := Lib.hid ((hU3.out.block _ (by omega)).trans hz1.out); have hs3 : w.heap.size + 2 = w3.heap.size := hs2.out.symm.trans hU3.out.size.symm; replace hs3 := Lib.hid hs3; have k0 := hrk0.out _ _ hP3.out)
    | ((with_reducible show wpList _ _ _ (Oper.mk _ (Op.store 34 (.tmp 2) _) _ _ _ _ :: _) _ _); (refine wpList_store_row rfl 34 (.tmp 2) (.tmp 27) rfl w.heap.size _ Tryd.zeroCells34 rfl rfl hz3 iZ rfl hZo ?_); intro w10 hU10))
  all_goals
    refine ret_cell_tmpB rfl rfl hu rfl iZ hU10.out.here ?_
    exact ⟨hZe.out 7, hbw3.out.trans (hU10.out.below (Nat.le_refl _))⟩

set_option maxRecDepth 100000 in
set_option maxHeartbeats 2000000 in
theorem rpars_ten (bs : List UInt8) (b o c n : Nat)  (w : World) (ha : ArgB w (some ⟨b, o, none⟩) c bs) (hn : bs.length = n) (hm : n ≤ 1000) (h0 : 0 < n) (hk : ((bs.getD 0 0).toNat : Int) = 1) (hlt : n < 10) : Calls Tryd.prog 16 #[.slice (some ⟨b, o, none⟩) n c] w (RPost Rc.zero 2 w) := by
  have hca := fun W hW => cell_cut ha W hW
  have hnc := Lib.hid (fun W hW => num_cut ha (by omega) W hW)
  rw [hn] at hca
  rw [hn] at hnc
  have hbl : b < w.heap.size := argB_lt ha (by omega)
  have hbd := Lib.hid (build_kindR (1))
  have s78 : (Rc.ofKind (1)).list.toArray.size = 78 := by rw [List.size_toArray, Rc.len (x := Rc.ofKind (1)) z32_len z32_len]
  have i8 : (Tryd.prog.info? 34).map (·.size) = some (Rc.ofKind (1)).list.toArray.size := by rw [s78]; kernel_rfl
  have z8 : (Tryd.zeroCells34).size = (Rc.ofKind (1)).list.toArray.size := by rw [s78]; kernel_rfl
  have hVo := Rc.all_one (Rc.ofKind (1))
  have iZ : (Tryd.prog.info? 34).map (·.size) = some (Tryd.zeroCells34).size := by kernel_rfl
  have hZo : (Tryd.zeroCells34).all (·.oneCell') = true := by rw [Rc.zeroR]; exact Rc.all_one Rc.zero
  have hu := Tryd.underlying34
  have i1 : (Tryd.prog.info? 3).map (·.size) = some 1 := by kernel_rfl
  have hrk0 : ∀ (W : World) g, W.heap[g]? = some (.cells (Rc.ofKind (1)).list.toArray 34 (0, 0)) → W.cell? ⟨g, 0, none⟩ = some (.int .i64 (1)) := fun W g h => by rw [cell_of_block h]; rfl
  replace hrk0 := Lib.hid hrk0
  generalize hRK : (Rc.ofKind (1)).list.toArray = RK at *
  have hZe : Hid (∀ m : Int, Ending.returned (.tuple #[.agg Tryd.zeroCells34, .int .i64 m]) = Ending.returned (.tuple #[.agg Rc.zero.list.toArray, .int .i64 m])) := Lib.hid (fun v => by rw [Rc.zeroR])
  replace hRK := Lib.hid hRK
  have hz1 : Hid (((w.alloc (.cells Tryd.zeroCells34 34)).alloc (.cells Tryd.zeroCells34 34)).heap[w.heap.size]? = some (.cells Tryd.zeroCells34 34 (0, 0))) := Lib.hid (by rw [heapA9, if_neg (by simp), heapA9, if_pos rfl])
  have hZp : Hid (((w.alloc (.cells Tryd.zeroCells34 34)).alloc (.cells Tryd.zeroCells34 34)).heap[w.heap.size + 1]? = some (.cells Tryd.zeroCells34 34 (0, 0))) := Lib.hid (by rw [heapA9, if_pos (by simp)])
  have hb1 : Below w.heap.size w (w.alloc (.cells Tryd.zeroCells34 34)) := (Below.refl _ _).alloc (Nat.le_refl _) _
  have hb2 := Lib.hid (hb1.alloc (by simp) (.cells Tryd.zeroCells34 34))
  have hs2 : ((w.alloc (.cells Tryd.zeroCells34 34)).alloc (.cells Tryd.zeroCells34 34)).heap.size = w.heap.size + 2 := by simp
  replace hca := Lib.hid hca
  have hc0 := hca.out _ hb1 0 (by omega)
  rw [Nat.add_zero] at hc0
  replace hb1 := Lib.hid hb1
  replace hs2 := Lib.hid hs2
  rw [hk] at hc0
  obtain ⟨L, hL⟩ : ∃ L : Int, (n : Int) = L := ⟨_, rfl⟩
  have hL0 : 0 < L := by omega
  have hL1 : L ≤ 1000 := by omega
  have hlt2 : L < 10 := by omega
  clear hlt
  clear hn hm hk h0
  go_enter Tryd.func16, Tryd.ntmps16
  go_wp2_with (first
    | ((with_reducible show wpList _ _ _ (Oper.mk _ (Op.build 34 _) _ _ _ _ :: _) _ _); refine wpList_buildV rfl 34 [(0, .tmp 17)] rfl [(0, .int .i64 (1))] rfl _ (hbd.out _) ?_)
    | ((with_reducible show wpList _ _ _ (Oper.mk _ (Op.store 34 (.tmp 4) _) _ _ _ _ :: _) _ _); (refine wpList_store_row rfl 34 (.tmp 4) (.tmp 18) rfl (w.heap.size + 1) _ RK rfl rfl hZp i8 z8 hVo ?_); intro w3 hU3; have hP3 := Lib.hid hU3.out.here; have hbw3 := Lib.hid (hb2.out.trans (hU3.out.below (by omega))); have hz3 := Lib.hid ((hU3.out.block _ (by omega)).trans hz1.out); have hs3 : w.heap.size + 2 = w3.heap.size := hs2.out.symm.trans hU3.out.size.symm; replace hs3 := Lib.hid hs3; have k0 := hrk0.out _ _ hP3.out; have hb4 : Below w3.heap.size w3 (w3.alloc (.cells #[.int .i64 0, .int .i64 0, .int .i64 30, .int .i64 26, .int .i64 17] 3)) := (Below.refl _ _).alloc (Nat.le_refl _) _; have hz4 := Lib.hid ((hb4.block _ (block_lt hz3.out)).trans hz3.out); have hP4 := Lib.hid ((hb4.block _ (block_lt hP3.out)).trans hP3.out); have hbw4 := Lib.hid (hbw3.out.trans (hb4.mono hbw3.out.size)); clear hb4; have k0f := hrk0.out _ _ hP4.out)
    | ((with_reducible show wpList _ _ _ (Oper.mk _ (Op.store 34 (.tmp 2) _) _ _ _ _ :: _) _ _); (refine wpList_store_row rfl 34 (.tmp 2) (.tmp 39) rfl w.heap.size _ Tryd.zeroCells34 rfl rfl hz4 iZ rfl hZo ?_); intro w10 hU10))
  refine ret_cell_tmpB rfl rfl hu rfl iZ hU10.out.here ?_
  exact ⟨hZe.out 2, hbw4.out.trans (hU10.out.below (Nat.le_refl _))⟩

set_option maxRecDepth 100000 in
set_option maxHeartbeats 2000000 in
theorem rpars_short1 (bs : List UInt8) (b o c n : Nat)  (w : World) (ha : ArgB w (some ⟨b, o, none⟩) c bs) (hn : bs.length = n) (hm : n ≤ 1000) (h0 : 10 ≤ n) (hk : ((bs.getD 0 0).toNat : Int) = 1) (hlt : n < 91 + (bs.getD 9 0).toNat) : Calls Tryd.prog 16 #[.slice (some ⟨b, o, none⟩) n c] w (RPost Rc.zero 2 w) := by
  have hca := fun W hW => cell_cut ha W hW
  have hnc := Lib.hid (fun W hW => num_cut ha (by omega) W hW)
  rw [hn] at hca
  rw [hn] at hnc
  have hbl : b < w.heap.size := argB_lt ha (by omega)
  have hbd := Lib.hid (build_kindR (1))
  have s78 : (Rc.ofKind (1)).list.toArray.size = 78 := by rw [List.size_toArray, Rc.len (x := Rc.ofKind (1)) z32_len z32_len]
  have i8 : (Tryd.prog.info? 34).map (·.size) = some (Rc.ofKind (1)).list.toArray.size := by rw [s78]; kernel_rfl
  have z8 : (Tryd.zeroCells34).size = (Rc.ofKind (1)).list.toArray.size := by rw [s78]; kernel_rfl
  have hVo := Rc.all_one (Rc.ofKind (1))
  have iZ : (Tryd.prog.info? 34).map (·.size) = some (Tryd.zeroCells34).size := by kernel_rfl
  have hZo : (Tryd.zeroCells34).all (·.oneCell') = true := by rw [Rc.zeroR]; exact Rc.all_one Rc.zero
  have hu := Tryd.underlying34
  have i1 : (Tryd.prog.info? 3).map (·.size) = some 1 := by kernel_rfl
  have hrk0 : ∀ (W : World) g, W.heap[g]? = some (.cells (Rc.ofKind (1)).list.toArray 34 (0, 0)) → W.cell? ⟨g, 0, none⟩ = some (.int .i64 (1)) := fun W g h => by rw [cell_of_block h]; rfl
  replace hrk0 := Lib.hid hrk0
  generalize hRK : (Rc.ofKind (1)).list.toArray = RK at *
  have hZe : Hid (∀ m : Int, Ending.returned (.tuple #[.agg Tryd.zeroCells34, .int .i64 m]) = Ending.returned (.tuple #[.agg Rc.zero.list.toArray, .int .i64 m])) := Lib.hid (fun v => by rw [Rc.zeroR])
  replace hRK := Lib.hid hRK
  have hz1 : Hid (((w.alloc (.cells Tryd.zeroCells34 34)).alloc (.cells Tryd.zeroCells34 34)).heap[w.heap.size]? = some (.cells Tryd.zeroCells34 34 (0, 0))) := Lib.hid (by rw [heapA9, if_neg (by simp), heapA9, if_pos rfl])
  have hZp : Hid (((w.alloc (.cells Tryd.zeroCells34 34)).alloc (.cells Tryd.zeroCells34 34)).heap[w.heap.size + 1]? = some (.cells Tryd.zeroCells34 34 (0, 0))) := Lib.hid (by rw [heapA9, if_pos (by simp)])
  have hb1 : Below w.heap.size w (w.alloc (.cells Tryd.zeroCells34 34)) := (Below.refl _ _).alloc (Nat.le_refl _) _
  have hb2 := Lib.hid (hb1.alloc (by simp) (.cells Tryd.zeroCells34 34))
  have hs2 : ((w.alloc (.cells Tryd.zeroCells34 34)).alloc (.cells Tryd.zeroCells34 34)).heap.size = w.heap.size + 2 := by simp
  replace hca := Lib.hid hca
  have hc0 := hca.out _ hb1 0 (by omega)
  rw [Nat.add_zero] at hc0
  replace hb1 := Lib.hid hb1
  replace hs2 := Lib.hid hs2
  rw [hk] at hc0
  obtain ⟨L, hL⟩ : ∃ L : Int, (n : Int) = L := ⟨_, rfl⟩
  have hc9 := Lib.hid (fun W hW => hca.out W hW 9 (by omega))
  obtain ⟨N9, hN9⟩ : ∃ N9 : Nat, (bs.getD 9 0).toNat = N9 := ⟨_, rfl⟩
  have hN9b : N9 ≤ 255 := by have := (bs.getD 9 0).toNat_lt; omega
  rw [hN9] at hc9 hlt
  have hL0 : 0 < L := by omega
  have hL1 : L ≤ 1000 := by omega
  have hlt2 : L < 91 + (N9 : Int) := by omega
  have hL10 : 10 ≤ L := by omega
  clear hlt
  clear hn hm hk h0
  go_enter Tryd.func16, Tryd.ntmps16
  go_wp2_with (first
    | ((with_reducible show wpList _ _ _ (Oper.mk _ (Op.build 34 _) _ _ _ _ :: _) _ _); refine wpList_buildV rfl 34 [(0, .tmp 17)] rfl [(0, .int .i64 (1))] rfl _ (hbd.out _) ?_)
    | ((with_reducible show wpList _ _ _ (Oper.mk _ (Op.store 34 (.tmp 4) _) _ _ _ _ :: _) _ _); (refine wpList_store_row rfl 34 (.tmp 4) (.tmp 18) rfl (w.heap.size + 1) _ RK rfl rfl hZp i8 z8 hVo ?_); intro w3 hU3; have hP3 := Lib.hid hU3.out.here; have hbw3 := Lib.hid (hb2.out.trans (hU3.out.below (by omega))); have hz3 := Lib.hid ((hU3.out.block _ (by omega)).trans hz1.out); have hs3 : w.heap.size + 2 = w3.heap.size := hs2.out.symm.trans hU3.out.size.symm; replace hs3 := Lib.hid hs3; have k0 := hrk0.out _ _ hP3.out; have hb4 : Below w3.heap.size w3 (w3.alloc (.cells #[.int .i64 0, .int .i64 0, .int .i64 30, .int .i64 26, .int .i64 17] 3)) := (Below.refl _ _).alloc (Nat.le_refl _) _; have hz4 := Lib.hid ((hb4.block _ (block_lt hz3.out)).trans hz3.out); have hP4 := Lib.hid ((hb4.block _ (block_lt hP3.out)).trans hP3.out); have hbw4 := Lib.hid (hbw3.out.trans (hb4.mono hbw3.out.size)); clear hb4; have k0f := hrk0.out _ _ hP4.out; have k9 := hc9.out _ hbw3.out; have k9f := hc9.out _ hbw4.out)
    | ((with_reducible show wpList _ _ _ (Oper.mk _ (Op.store 34 (.tmp 2) _) _ _ _ _ :: _) _ _); (refine wpList_store_row rfl 34 (.tmp 2) (.tmp 52) rfl w.heap.size _ Tryd.zeroCells34 rfl rfl hz4 iZ rfl hZo ?_); intro w10 hU10))
  refine ret_cell_tmpB rfl rfl hu rfl iZ hU10.out.here ?_
  exact ⟨hZe.out 2, hbw4.out.trans (hU10.out.below (Nat.le_refl _))⟩

set_option maxRecDepth 100000 in
set_option maxHeartbeats 2000000 in
theorem rpars_long1 (bs : List UInt8) (b o c n : Nat)  (w : World) (ha : ArgB w (some ⟨b, o, none⟩) c bs) (hn : bs.length = n) (hm : n ≤ 1000) (h0 : 10 ≤ n) (hk : ((bs.getD 0 0).toNat : Int) = 1) (hlt : 91 + (bs.getD 9 0).toNat < n) : Calls Tryd.prog 16 #[.slice (some ⟨b, o, none⟩) n c] w (RPost Rc.zero 3 w) := by
  have hca := fun W hW => cell_cut ha W hW
  have hnc := Lib.hid (fun W hW => num_cut ha (by omega) W hW)
  rw [hn] at hca
  rw [hn] at hnc
  have hbl : b < w.heap.size := argB_lt ha (by omega)
  have hbd := Lib.hid (build_kindR (1))
  have s78 : (Rc.ofKind (1)).list.toArray.size = 78 := by rw [List.size_toArray, Rc.len (x := Rc.ofKind (1)) z32_len z32_len]
  have i8 : (Tryd.prog.info? 34).map (·.size) = some (Rc.ofKind (1)).list.toArray.size := by rw [s78]; kernel_rfl
  have z8 : (Tryd.zeroCells34).size = (Rc.ofKind (1)).list.toArray.size := by rw [s78]; kernel_rfl
  have hVo := Rc.all_one (Rc.ofKind (1))
  have iZ : (Tryd.prog.info? 34).map (·.size) = some (Tryd.zeroCells34).size := by kernel_rfl
  have hZo : (Tryd.zeroCells34).all (·.oneCell') = true := by rw [Rc.zeroR]; exact Rc.all_one Rc.zero
  have hu := Tryd.underlying34
  have i1 : (Tryd.prog.info? 3).map (·.size) = some 1 := by kernel_rfl
  have hrk0 : ∀ (W : World) g, W.heap[g]? = some (.cells (Rc.ofKind (1)).list.toArray 34 (0, 0)) → W.cell? ⟨g, 0, none⟩ = some (.int .i64 (1)) := fun W g h => by rw [cell_of_block h]; rfl
  replace hrk0 := Lib.hid hrk0
  generalize hRK : (Rc.ofKind (1)).list.toArray = RK at *
  have hZe : Hid (∀ m : Int, Ending.returned (.tuple #[.agg Tryd.zeroCells34, .int .i64 m]) = Ending.returned (.tuple #[.agg Rc.zero.list.toArray, .int .i64 m])) := Lib.hid (fun v => by rw [Rc.zeroR])
  replace hRK := Lib.hid hRK
  have hz1 : Hid (((w.alloc (.cells Tryd.zeroCells34 34)).alloc (.cells Tryd.zeroCells34 34)).heap[w.heap.size]? = some (.cells Tryd.zeroCells34 34 (0, 0))) := Lib.hid (by rw [heapA9, if_neg (by simp), heapA9, if_pos rfl])
  have hZp : Hid (((w.alloc (.cells Tryd.zeroCells34 34)).alloc (.cells Tryd.zeroCells34 34)).heap[w.heap.size + 1]? = some (.cells Tryd.zeroCells34 34 (0, 0))) := Lib.hid (by rw [heapA9, if_pos (by simp)])
  have hb1 : Below w.heap.size w (w.alloc (.cells Tryd.zeroCells34 34)) := (Below.refl _ _).alloc (Nat.le_refl _) _
  have hb2 := Lib.hid (hb1.alloc (by simp) (.cells Tryd.zeroCells34 34))
  have hs2 : ((w.alloc (.cells Tryd.zeroCells34 34)).alloc (.cells Tryd.zeroCells34 34)).heap.size = w.heap.size + 2 := by simp
  replace hca := Lib.hid hca
  have hc0 := hca.out _ hb1 0 (by omega)
  rw [Nat.add_zero] at hc0
  replace hb1 := Lib.hid hb1
  replace hs2 := Lib.hid hs2
  rw [hk] at hc0
  obtain ⟨L, hL⟩ : ∃ L : Int, (n : Int) = L := ⟨_, rfl⟩
  have hc9 := Lib.hid (fun W hW => hca.out W hW 9 (by omega))
  obtain ⟨N9, hN9⟩ : ∃ N9 : Nat, (bs.getD 9 0).toNat = N9 := ⟨_, rfl⟩
  have hN9b : N9 ≤ 255 := by have := (bs.getD 9 0).toNat_lt; omega
  rw [hN9] at hc9 hlt
  have hL0 : 0 < L := by omega
  have hL1 : L ≤ 1000 := by omega
  have hlt2 : 91 + (N9 : Int) < L := by omega
  have hL10 : 10 ≤ L := by omega
  clear hlt
  clear hn hm hk h0
  go_enter Tryd.func16, Tryd.ntmps16
  go_wp2_with (first
    | ((with_reducible show wpList _ _ _ (Oper.mk _ (Op.build 34 _) _ _ _ _ :: _) _ _); refine wpList_buildV rfl 34 [(0, .tmp 17)] rfl [(0, .int .i64 (1))] rfl _ (hbd.out _) ?_)
    | ((with_reducible show wpList _ _ _ (Oper.mk _ (Op.store 34 (.tmp 4) _) _ _ _ _ :: _) _ _); (refine wpList_store_row rfl 34 (.tmp 4) (.tmp 18) rfl (w.heap.size + 1) _ RK rfl rfl hZp i8 z8 hVo ?_); intro w3 hU3; have hP3 := Lib.hid hU3.out.here; have hbw3 := Lib.hid (hb2.out.trans (hU3.out.below (by omega))); have hz3 := Lib.hid ((hU3.out.block _ (by omega)).trans hz1.out); have hs3 : w.heap.size + 2 = w3.heap.size := hs2.out.symm.trans hU3.out.size.symm; replace hs3 := Lib.hid hs3; have k0 := hrk0.out _ _ hP3.out; have hb4 : Below w3.heap.size w3 (w3.alloc (.cells #[.int .i64 0, .int .i64 0, .int .i64 30, .int .i64 26, .int .i64 17] 3)) := (Below.refl _ _).alloc (Nat.le_refl _) _; have hz4 := Lib.hid ((hb4.block _ (block_lt hz3.out)).trans hz3.out); have hP4 := Lib.hid ((hb4.block _ (block_lt hP3.out)).trans hP3.out); have hbw4 := Lib.hid (hbw3.out.trans (hb4.mono hbw3.out.size)); clear hb4; have k0f := hrk0.out _ _ hP4.out; have k9 := hc9.out _ hbw3.out; have k9f := hc9.out _ hbw4.out)
    | ((with_reducible show wpList _ _ _ (Oper.mk _ (Op.store 34 (.tmp 2) _) _ _ _ _ :: _) _ _); (refine wpList_store_row rfl 34 (.tmp 2) (.tmp 57) rfl w.heap.size _ Tryd.zeroCells34 rfl rfl hz4 iZ rfl hZo ?_); intro w10 hU10))
  refine ret_cell_tmpB rfl rfl hu rfl iZ hU10.out.here ?_
  exact ⟨hZe.out 3, hbw4.out.trans (hU10.out.below (Nat.le_refl _))⟩

set_option maxRecDepth 100000 in
set_option maxHeartbeats 2000000 in
theorem rpars_short2 (bs : List UInt8) (b o c n : Nat)  (w : World) (ha : ArgB w (some ⟨b, o, none⟩) c bs) (hn : bs.length = n) (hm : n ≤ 1000) (h0 : 0 < n) (hk : ((bs.getD 0 0).toNat : Int) = 2) (hlt : n < 30) : Calls Tryd.prog 16 #[.slice (some ⟨b, o, none⟩) n c] w (RPost Rc.zero 2 w) := by
  have hca := fun W hW => cell_cut ha W hW
  have hnc := Lib.hid (fun W hW => num_cut ha (by omega) W hW)
  rw [hn] at hca
  rw [hn] at hnc
  have hbl : b < w.heap.size := argB_lt ha (by omega)
  have hbd := Lib.hid (build_kindR (2))
  have s78 : (Rc.ofKind (2)).list.toArray.size = 78 := by rw [List.size_toArray, Rc.len (x := Rc.ofKind (2)) z32_len z32_len]
  have i8 : (Tryd.prog.info? 34).map (·.size) = some (Rc.ofKind (2)).list.toArray.size := by rw [s78]; kernel_rfl
  have z8 : (Tryd.zeroCells34).size = (Rc.ofKind (2)).list.toArray.size := by rw [s78]; kernel_rfl
  have hVo := Rc.all_one (Rc.ofKind (2))
  have iZ : (Tryd.prog.info? 34).map (·.size) = some (Tryd.zeroCells34).size := by kernel_rfl
  have hZo : (Tryd.zeroCells34).all (·.oneCell') = true := by rw [Rc.zeroR]; exact Rc.all_one Rc.zero
  have hu := Tryd.underlying34
  have i1 : (Tryd.prog.info? 3).map (·.size) = some 1 := by kernel_rfl
  have hrk0 : ∀ (W : World) g, W.heap[g]? = some (.cells (Rc.ofKind (2)).list.toArray 34 (0, 0)) → W.cell? ⟨g, 0, none⟩ = some (.int .i64 (2)) := fun W g h => by rw [cell_of_block h]; rfl
  replace hrk0 := Lib.hid hrk0
  generalize hRK : (Rc.ofKind (2)).list.toArray = RK at *
  have hZe : Hid (∀ m : Int, Ending.returned (.tuple #[.agg Tryd.zeroCells34, .int .i64 m]) = Ending.returned (.tuple #[.agg Rc.zero.list.toArray, .int .i64 m])) := Lib.hid (fun v => by rw [Rc.zeroR])
  replace hRK := Lib.hid hRK
  have hz1 : Hid (((w.alloc (.cells Tryd.zeroCells34 34)).alloc (.cells Tryd.zeroCells34 34)).heap[w.heap.size]? = some (.cells Tryd.zeroCells34 34 (0, 0))) := Lib.hid (by rw [heapA9, if_neg (by simp), heapA9, if_pos rfl])
  have hZp : Hid (((w.alloc (.cells Tryd.zeroCells34 34)).alloc (.cells Tryd.zeroCells34 34)).heap[w.heap.size + 1]? = some (.cells Tryd.zeroCells34 34 (0, 0))) := Lib.hid (by rw [heapA9, if_pos (by simp)])
  have hb1 : Below w.heap.size w (w.alloc (.cells Tryd.zeroCells34 34)) := (Below.refl _ _).alloc (Nat.le_refl _) _
  have hb2 := Lib.hid (hb1.alloc (by simp) (.cells Tryd.zeroCells34 34))
  have hs2 : ((w.alloc (.cells Tryd.zeroCells34 34)).alloc (.cells Tryd.zeroCells34 34)).heap.size = w.heap.size + 2 := by simp
  replace hca := Lib.hid hca
  have hc0 := hca.out _ hb1 0 (by omega)
  rw [Nat.add_zero] at hc0
  replace hb1 := Lib.hid hb1
  replace hs2 := Lib.hid hs2
  rw [hk] at hc0
  obtain ⟨L, hL⟩ : ∃ L : Int, (n : Int) = L := ⟨_, rfl⟩
  have hL0 : 0 < L := by omega
  have hL1 : L ≤ 1000 := by omega
  have hlt2 : L < 30 := by omega
  clear hlt
  clear hn hm hk h0
  go_enter Tryd.func16, Tryd.ntmps16
  go_wp2_with (first
    | ((with_reducible show wpList _ _ _ (Oper.mk _ (Op.build 34 _) _ _ _ _ :: _) _ _); refine wpList_buildV rfl 34 [(0, .tmp 17)] rfl [(0, .int .i64 (2))] rfl _ (hbd.out _) ?_)
    | ((with_reducible show wpList _ _ _ (Oper.mk _ (Op.store 34 (.tmp 4) _) _ _ _ _ :: _) _ _); (refine wpList_store_row rfl 34 (.tmp 4) (.tmp 18) rfl (w.heap.size + 1) _ RK rfl rfl hZp i8 z8 hVo ?_); intro w3 hU3; have hP3 := Lib.hid hU3.out.here; have hbw3 := Lib.hid (hb2.out.trans (hU3.out.below (by omega))); have hz3 := Lib.hid ((hU3.out.block _ (by omega)).trans hz1.out); have hs3 : w.heap.size + 2 = w3.heap.size := hs2.out.symm.trans hU3.out.size.symm; replace hs3 := Lib.hid hs3; have k0 := hrk0.out _ _ hP3.out; have hb4 : Below w3.heap.size w3 (w3.alloc (.cells #[.int .i64 0, .int .i64 0, .int .i64 30, .int .i64 26, .int .i64 17] 3)) := (Below.refl _ _).alloc (Nat.le_refl _) _; have hz4 := Lib.hid ((hb4.block _ (block_lt hz3.out)).trans hz3.out); have hP4 := Lib.hid ((hb4.block _ (block_lt hP3.out)).trans hP3.out); have hbw4 := Lib.hid (hbw3.out.trans (hb4.mono hbw3.out.size)); clear hb4; have k0f := hrk0.out _ _ hP4.out)
    | ((with_reducible show wpList _ _ _ (Oper.mk _ (Op.store 34 (.tmp 2) _) _ _ _ _ :: _) _ _); (refine wpList_store_row rfl 34 (.tmp 2) (.tmp 52) rfl w.heap.size _ Tryd.zeroCells34 rfl rfl hz4 iZ rfl hZo ?_); intro w10 hU10))
  refine ret_cell_tmpB rfl rfl hu rfl iZ hU10.out.here ?_
  exact ⟨hZe.out 2, hbw4.out.trans (hU10.out.below (Nat.le_refl _))⟩

set_option maxRecDepth 100000 in
set_option maxHeartbeats 2000000 in
theorem rpars_long2 (bs : List UInt8) (b o c n : Nat)  (w : World) (ha : ArgB w (some ⟨b, o, none⟩) c bs) (hn : bs.length = n) (hm : n ≤ 1000) (h0 : 0 < n) (hk : ((bs.getD 0 0).toNat : Int) = 2) (hlt : 30 < n) : Calls Tryd.prog 16 #[.slice (some ⟨b, o, none⟩) n c] w (RPost Rc.zero 3 w) := by
  have hca := fun W hW => cell_cut ha W hW
  have hnc := Lib.hid (fun W hW => num_cut ha (by omega) W hW)
  rw [hn] at hca
  rw [hn] at hnc
  have hbl : b < w.heap.size := argB_lt ha (by omega)
  have hbd := Lib.hid (build_kindR (2))
  have s78 : (Rc.ofKind (2)).list.toArray.size = 78 := by rw [List.size_toArray, Rc.len (x := Rc.ofKind (2)) z32_len z32_len]
  have i8 : (Tryd.prog.info? 34).map (·.size) = some (Rc.ofKind (2)).list.toArray.size := by rw [s78]; kernel_rfl
  have z8 : (Tryd.zeroCells34).size = (Rc.ofKind (2)).list.toArray.size := by rw [s78]; kernel_rfl
  have hVo := Rc.all_one (Rc.ofKind (2))
  have iZ : (Tryd.prog.info? 34).map (·.size) = some (Tryd.zeroCells34).size := by kernel_rfl
  have hZo : (Tryd.zeroCells34).all (·.oneCell') = true := by rw [Rc.zeroR]; exact Rc.all_one Rc.zero
  have hu := Tryd.underlying34
  have i1 : (Tryd.prog.info? 3).map (·.size) = some 1 := by kernel_rfl
  have hrk0 : ∀ (W : World) g, W.heap[g]? = some (.cells (Rc.ofKind (2)).list.toArray 34 (0, 0)) → W.cell? ⟨g, 0, none⟩ = some (.int .i64 (2)) := fun W g h => by rw [cell_of_block h]; rfl
  replace hrk0 := Lib.hid hrk0
  generalize hRK : (Rc.ofKind (2)).list.toArray = RK at *
  have hZe : Hid (∀ m : Int, Ending.returned (.tuple #[.agg Tryd.zeroCells34, .int .i64 m]) = Ending.returned (.tuple #[.agg Rc.zero.list.toArray, .int .i64 m])) := Lib.hid (fun v => by rw [Rc.zeroR])
  replace hRK := Lib.hid hRK
  have hz1 : Hid (((w.alloc (.cells Tryd.zeroCells34 34)).alloc (.cells Tryd.zeroCells34 34)).heap[w.heap.size]? = some (.cells Tryd.zeroCells34 34 (0, 0))) := Lib.hid (by rw [heapA9, if_neg (by simp), heapA9, if_pos rfl])
  have hZp : Hid (((w.alloc (.cells Tryd.zeroCells34 34)).alloc (.cells Tryd.zeroCells34 34)).heap[w.heap.size + 1]? = some (.cells Tryd.zeroCells34 34 (0, 0))) := Lib.hid (by rw [heapA9, if_pos (by simp)])
  have hb1 : Below w.heap.size w (w.alloc (.cells Tryd.zeroCells34 34)) := (Below.refl _ _).alloc (Nat.le_refl _) _
  have hb2 := Lib.hid (hb1.alloc (by simp) (.cells Tryd.zeroCells34 34))
  have hs2 : ((w.alloc (.cells Tryd.zeroCells34 34)).alloc (.cells Tryd.zeroCells34 34)).heap.size = w.heap.size + 2 := by simp
  replace hca := Lib.hid hca
  have hc0 := hca.out _ hb1 0 (by omega)
  rw [Nat.add_zero] at hc0
  replace hb1 := Lib.hid hb1
  replace hs2 := Lib.hid hs2
  rw [hk] at hc0
  obtain ⟨L, hL⟩ : ∃ L : Int, (n : Int) = L := ⟨_, rfl⟩
  have hL0 : 0 < L := by omega
  have hL1 : L ≤ 1000 := by omega
  have hlt2 : 30 < L := by omega
  clear hlt
  clear hn hm hk h0
  go_enter Tryd.func16, Tryd.ntmps16
  go_wp2_with (first
    | ((with_reducible show wpList _ _ _ (Oper.mk _ (Op.build 34 _) _ _ _ _ :: _) _ _); refine wpList_buildV rfl 34 [(0, .tmp 17)] rfl [(0, .int .i64 (2))] rfl _ (hbd.out _) ?_)
    | ((with_reducible show wpList _ _ _ (Oper.mk _ (Op.store 34 (.tmp 4) _) _ _ _ _ :: _) _ _); (refine wpList_store_row rfl 34 (.tmp 4) (.tmp 18) rfl (w.heap.size + 1) _ RK rfl rfl hZp i8 z8 hVo ?_); intro w3 hU3; have hP3 := Lib.hid hU3.out.here; have hbw3 := Lib.hid (hb2.out.trans (hU3.out.below (by omega))); have hz3 := Lib.hid ((hU3.out.block _ (by omega)).trans hz1.out); have hs3 : w.heap.size + 2 = w3.heap.size := hs2.out.symm.trans hU3.out.size.symm; replace hs3 := Lib.hid hs3; have k0 := hrk0.out _ _ hP3.out; have hb4 : Below w3.heap.size w3 (w3.alloc (.cells #[.int .i64 0, .int .i64 0, .int .i64 30, .int .i64 26, .int .i64 17] 3)) := (Below.refl _ _).alloc (Nat.le_refl _) _; have hz4 := Lib.hid ((hb4.block _ (block_lt hz3.out)).trans hz3.out); have hP4 := Lib.hid ((hb4.block _ (block_lt hP3.out)).trans hP3.out); have hbw4 := Lib.hid (hbw3.out.trans (hb4.mono hbw3.out.size)); clear hb4; have k0f := hrk0.out _ _ hP4.out)
    | ((with_reducible show wpList _ _ _ (Oper.mk _ (Op.store 34 (.tmp 2) _) _ _ _ _ :: _) _ _); (refine wpList_store_row rfl 34 (.tmp 2) (.tmp 57) rfl w.heap.size _ Tryd.zeroCells34 rfl rfl hz4 iZ rfl hZo ?_); intro w10 hU10))
  refine ret_cell_tmpB rfl rfl hu rfl iZ hU10.out.here ?_
  exact ⟨hZe.out 3, hbw4.out.trans (hU10.out.below (Nat.le_refl _))⟩

set_option maxRecDepth 100000 in
set_option maxHeartbeats 2000000 in
theorem rpars_short3 (bs : List UInt8) (b o c n : Nat)  (w : World) (ha : ArgB w (some ⟨b, o, none⟩) c bs) (hn : bs.length = n) (hm : n ≤ 1000) (h0 : 0 < n) (hk : ((bs.getD 0 0).toNat : Int) = 3) (hlt : n < 26) : Calls Tryd.prog 16 #[.slice (some ⟨b, o, none⟩) n c] w (RPost Rc.zero 2 w) := by
  have hca := fun W hW => cell_cut ha W hW
  have hnc := Lib.hid (fun W hW => num_cut ha (by omega) W hW)
  rw [hn] at hca
  rw [hn] at hnc
  have hbl : b < w.heap.size := argB_lt ha (by omega)
  have hbd := Lib.hid (build_kindR (3))
  have s78 : (Rc.ofKind (3)).list.toArray.size = 78 := by rw [List.size_toArray, Rc.len (x := Rc.ofKind (3)) z32_len z32_len]
  have i8 : (Tryd.prog.info? 34).map (·.size) = some (Rc.ofKind (3)).list.toArray.size := by rw [s78]; kernel_rfl
  have z8 : (Tryd.zeroCells34).size = (Rc.ofKind (3)).list.toArray.size := by rw [s78]; kernel_rfl
  have hVo := Rc.all_one (Rc.ofKind (3))
  have iZ : (Tryd.prog.info? 34).map (·.size) = some (Tryd.zeroCells34).size := by kernel_rfl
  have hZo : (Tryd.zeroCells34).all (·.oneCell') = true := by rw [Rc.zeroR]; exact Rc.all_one Rc.zero
  have hu := Tryd.underlying34
  have i1 : (Tryd.prog.info? 3).map (·.size) = some 1 := by kernel_rfl
  have hrk0 : ∀ (W : World) g, W.heap[g]? = some (.cells (Rc.ofKind (3)).list.toArray 34 (0, 0)) → W.cell? ⟨g, 0, none⟩ = some (.int .i64 (3)) := fun W g h => by rw [cell_of_block h]; rfl
  replace hrk0 := Lib.hid hrk0
  generalize hRK : (Rc.ofKind (3)).list.toArray = RK at *
  have hZe : Hid (∀ m : Int, Ending.returned (.tuple #[.agg Tryd.zeroCells34, .int .i64 m]) = Ending.returned (.tuple #[.agg Rc.zero.list.toArray, .int .i64 m])) := Lib.hid (fun v => by rw [Rc.zeroR])
  replace hRK := Lib.hid hRK
  have hz1 : Hid (((w.alloc (.cells Tryd.zeroCells34 34)).alloc (.cells Tryd.zeroCells34 34)).heap[w.heap.size]? = some (.cells Tryd.zeroCells34 34 (0, 0))) := Lib.hid (by rw [heapA9, if_neg (by simp), heapA9, if_pos rfl])
  have hZp : Hid (((w.alloc (.cells Tryd.zeroCells34 34)).alloc (.cells Tryd.zeroCells34 34)).heap[w.heap.size + 1]? = some (.cells Tryd.zeroCells34 34 (0, 0))) := Lib.hid (by rw [heapA9, if_pos (by simp)])
  have hb1 : Below w.heap.size w (w.alloc (.cells Tryd.zeroCells34 34)) := (Below.refl _ _).alloc (Nat.le_refl _) _
  have hb2 := Lib.hid (hb1.alloc (by simp) (.cells Tryd.zeroCells34 34))
  have hs2 : ((w.alloc (.cells Tryd.zeroCells34 34)).alloc (.cells Tryd.zeroCells34 34)).heap.size = w.heap.size + 2 := by simp
  replace hca := Lib.hid hca
  have hc0 := hca.out _ hb1 0 (by omega)
  rw [Nat.add_zero] at hc0
  replace hb1 := Lib.hid hb1
  replace hs2 := Lib.hid hs2
  rw [hk] at hc0
  obtain ⟨L, hL⟩ : ∃ L : Int, (n : Int) = L := ⟨_, rfl⟩
  have hL0 : 0 < L := by omega
  have hL1 : L ≤ 1000 := by omega
  have hlt2 : L < 26 := by omega
  clear hlt
  clear hn hm hk h0
  go_enter Tryd.func16, Tryd.ntmps16
  go_wp2_with (first
    | ((with_reducible show wpList _ _ _ (Oper.mk _ (Op.build 34 _) _ _ _ _ :: _) _ _); refine wpList_buildV rfl 34 [(0, .tmp 17)] rfl [(0, .int .i64 (3))] rfl _ (hbd.out _) ?_)
    | ((with_reducible show wpList _ _ _ (Oper.mk _ (Op.store 34 (.tmp 4) _) _ _ _ _ :: _) _ _); (refine wpList_store_row rfl 34 (.tmp 4) (.tmp 18) rfl (w.heap.size + 1) _ RK rfl rfl hZp i8 z8 hVo ?_); intro w3 hU3; have hP3 := Lib.hid hU3.out.here; have hbw3 := Lib.hid (hb2.out.trans (hU3.out.below (by omega))); have hz3 := Lib.hid ((hU3.out.block _ (by omega)).trans hz1.out); have hs3 : w.heap.size + 2 = w3.heap.size := hs2.out.symm.trans hU3.out.size.symm; replace hs3 := Lib.hid hs3; have k0 := hrk0.out _ _ hP3.out; have hb4 : Below w3.heap.size w3 (w3.alloc (.cells #[.int .i64 0, .int .i64 0, .int .i64 30, .int .i64 26, .int .i64 17] 3)) := (Below.refl _ _).alloc (Nat.le_refl _) _; have hz4 := Lib.hid ((hb4.block _ (block_lt hz3.out)).trans hz3.out); have hP4 := Lib.hid ((hb4.block _ (block_lt hP3.out)).trans hP3.out); have hbw4 := Lib.hid (hbw3.out.trans (hb4.mono hbw3.out.size)); clear hb4; have k0f := hrk0.out _ _ hP4.out)
    | ((with_reducible show wpList _ _ _ (Oper.mk _ (Op.store 34 (.tmp 2) _) _ _ _ _ :: _) _ _); (refine wpList_store_row rfl 34 (.tmp 2) (.tmp 52) rfl w.heap.size _ Tryd.zeroCells34 rfl rfl hz4 iZ rfl hZo ?_); intro w10 hU10))
  refine ret_cell_tmpB rfl rfl hu rfl iZ hU10.out.here ?_
  exact ⟨hZe.out 2, hbw4.out.trans (hU10.out.below (Nat.le_refl _))⟩

set_option maxRecDepth 100000 in
set_option maxHeartbeats 2000000 in
theorem rpars_long3 (bs : List UInt8) (b o c n : Nat)  (w : World) (ha : ArgB w (some ⟨b, o, none⟩) c bs) (hn : bs.length = n) (hm : n ≤ 1000) (h0 : 0 < n) (hk : ((bs.getD 0 0).toNat : Int) = 3) (hlt : 26 < n) : Calls Tryd.prog 16 #[.slice (some ⟨b, o, none⟩) n c] w (RPost Rc.zero 3 w) := by
  have hca := fun W hW => cell_cut ha W hW
  have hnc := Lib.hid (fun W hW => num_cut ha (by omega) W hW)
  rw [hn] at hca
  rw [hn] at hnc
  have hbl : b < w.heap.size := argB_lt ha (by omega)
  have hbd := Lib.hid (build_kindR (3))
  have s78 : (Rc.ofKind (3)).list.toArray.size = 78 := by rw [List.size_toArray, Rc.len (x := Rc.ofKind (3)) z32_len z32_len]
  have i8 : (Tryd.prog.info? 34).map (·.size) = some (Rc.ofKind (3)).list.toArray.size := by rw [s78]; kernel_rfl
  have z8 : (Tryd.zeroCells34).size = (Rc.ofKind (3)).list.toArray.size := by rw [s78]; kernel_rfl
  have hVo := Rc.all_one (Rc.ofKind (3))
  have iZ : (Tryd.prog.info? 34).map (·.size) = some (Tryd.zeroCells34).size := by kernel_rfl
  have hZo : (Tryd.zeroCells34).all (·.oneCell') = true := by rw [Rc.zeroR]; exact Rc.all_one Rc.zero
  have hu := Tryd.underlying34
  have i1 : (Tryd.prog.info? 3).map (·.size) = some 1 := by kernel_rfl
  have hrk0 : ∀ (W : World) g, W.heap[g]? = some (.cells (Rc.ofKind (3)).list.toArray 34 (0, 0)) → W.cell? ⟨g, 0, none⟩ = some (.int .i64 (3)) := fun W g h => by rw [cell_of_block h]; rfl
  replace hrk0 := Lib.hid hrk0
  generalize hRK : (Rc.ofKind (3)).list.toArray = RK at *
  have hZe : Hid (∀ m : Int, Ending.returned (.tuple #[.agg Tryd.zeroCells34, .int .i64 m]) = Ending.returned (.tuple #[.agg Rc.zero.list.toArray, .int .i64 m])) := Lib.hid (fun v => by rw [Rc.zeroR])
  replace hRK := Lib.hid hRK
  have hz1 : Hid (((w.alloc (.cells Tryd.zeroCells34 34)).alloc (.cells Tryd.zeroCells34 34)).heap[w.heap.size]? = some (.cells Tryd.zeroCells34 34 (0, 0))) := Lib.hid (by rw [heapA9, if_neg (by simp), heapA9, if_pos rfl])
  have hZp : Hid (((w.alloc (.cells Tryd.zeroCells34 34)).alloc (.cells Tryd.zeroCells34 34)).heap[w.heap.size + 1]? = some (.cells Tryd.zeroCells34 34 (0, 0))) := Lib.hid (by rw [heapA9, if_pos (by simp)])
  have hb1 : Below w.heap.size w (w.alloc (.cells Tryd.zeroCells34 34)) := (Below.refl _ _).alloc (Nat.le_refl _) _
  have hb2 := Lib.hid (hb1.alloc (by simp) (.cells Tryd.zeroCells34 34))
  have hs2 : ((w.alloc (.cells Tryd.zeroCells34 34)).alloc (.cells Tryd.zeroCells34 34)).heap.size = w.heap.size + 2 := by simp
  replace hca := Lib.hid hca
  have hc0 := hca.out _ hb1 0 (by omega)
  rw [Nat.add_zero] at hc0
  replace hb1 := Lib.hid hb1
  replace hs2 := Lib.hid hs2
  rw [hk] at hc0
  obtain ⟨L, hL⟩ : ∃ L : Int, (n : Int) = L := ⟨_, rfl⟩
  have hL0 : 0 < L := by omega
  have hL1 : L ≤ 1000 := by omega
  have hlt2 : 26 < L := by omega
  clear hlt
  clear hn hm hk h0
  go_enter Tryd.func16, Tryd.ntmps16
  go_wp2_with (first
    | ((with_reducible show wpList _ _ _ (Oper.mk _ (Op.build 34 _) _ _ _ _ :: _) _ _); refine wpList_buildV rfl 34 [(0, .tmp 17)] rfl [(0, .int .i64 (3))] rfl _ (hbd.out _) ?_)
    | ((with_reducible show wpList _ _ _ (Oper.mk _ (Op.store 34 (.tmp 4) _) _ _ _ _ :: _) _ _); (refine wpList_store_row rfl 34 (.tmp 4) (.tmp 18) rfl (w.heap.size + 1) _ RK rfl rfl hZp i8 z8 hVo ?_); intro w3 hU3; have hP3 := Lib.hid hU3.out.here; have hbw3 := Lib.hid (hb2.out.trans (hU3.out.below (by omega))); have hz3 := Lib.hid ((hU3.out.block _ (by omega)).trans hz1.out); have hs3 : w.heap.size + 2 = w3.heap.size := hs2.out.symm.trans hU3.out.size.symm; replace hs3 := Lib.hid hs3; have k0 := hrk0.out _ _ hP3.out; have hb4 : Below w3.heap.size w3 (w3.alloc (.cells #[.int .i64 0, .int .i64 0, .int .i64 30, .int .i64 26, .int .i64 17] 3)) := (Below.refl _ _).alloc (Nat.le_refl _) _; have hz4 := Lib.hid ((hb4.block _ (block_lt hz3.out)).trans hz3.out); have hP4 := Lib.hid ((hb4.block _ (block_lt hP3.out)).trans hP3.out); have hbw4 := Lib.hid (hbw3.out.trans (hb4.mono hbw3.out.size)); clear hb4; have k0f := hrk0.out _ _ hP4.out)
    | ((with_reducible show wpList _ _ _ (Oper.mk _ (Op.store 34 (.tmp 2) _) _ _ _ _ :: _) _ _); (refine wpList_store_row rfl 34 (.tmp 2) (.tmp 57) rfl w.heap.size _ Tryd.zeroCells34 rfl rfl hz4 iZ rfl hZo ?_); intro w10 hU10))
  refine ret_cell_tmpB rfl rfl hu rfl iZ hU10.out.here ?_
  exact ⟨hZe.out 3, hbw4.out.trans (hU10.out.below (Nat.le_refl _))⟩

set_option maxRecDepth 100000 in
set_option maxHeartbeats 2000000 in
theorem rpars_short4 (bs : List UInt8) (b o c n : Nat)  (w : World) (ha : ArgB w (some ⟨b, o, none⟩) c bs) (hn : bs.length = n) (hm : n ≤ 1000) (h0 : 0 < n) (hk : ((bs.getD 0 0).toNat : Int) = 4) (hlt : n < 17) : Calls Tryd.prog 16 #[.slice (some ⟨b, o, none⟩) n c] w (RPost Rc.zero 2 w) := by
  have hca := fun W hW => cell_cut ha W hW
  have hnc := Lib.hid (fun W hW => num_cut ha (by omega) W hW)
  rw [hn] at hca
  rw [hn] at hnc
  have hbl : b < w.heap.size := argB_lt ha (by omega)
  have hbd := Lib.hid (build_kindR (4))
  have s78 : (Rc.ofKind (4)).list.toArray.size = 78 := by rw [List.size_toArray, Rc.len (x := Rc.ofKind (4)) z32_len z32_len]
  have i8 : (Tryd.prog.info? 34).map (·.size) = some (Rc.ofKind (4)).list.toArray.size := by rw [s78]; kernel_rfl
  have z8 : (Tryd.zeroCells34).size = (Rc.ofKind (4)).list.toArray.size := by rw [s78]; kernel_rfl
  have hVo := Rc.all_one (Rc.ofKind (4))
  have iZ : (Tryd.prog.info? 34).map (·.size) = some (Tryd.zeroCells34).size := by kernel_rfl
  have hZo : (Tryd.zeroCells34).all (·.oneCell') = true := by rw [Rc.zeroR]; exact Rc.all_one Rc.zero
  have hu := Tryd.underlying34
  have i1 : (Tryd.prog.info? 3).map (·.size) = some 1 := by kernel_rfl
  have hrk0 : ∀ (W : World) g, W.heap[g]? = some (.cells (Rc.ofKind (4)).list.toArray 34 (0, 0)) → W.cell? ⟨g, 0, none⟩ = some (.int .i64 (4)) := fun W g h => by rw [cell_of_block h]; rfl
  replace hrk0 := Lib.hid hrk0
  generalize hRK : (Rc.ofKind (4)).list.toArray = RK at *
  have hZe : Hid (∀ m : Int, Ending.returned (.tuple #[.agg Tryd.zeroCells34, .int .i64 m]) = Ending.returned (.tuple #[.agg Rc.zero.list.toArray, .int .i64 m])) := Lib.hid (fun v => by rw [Rc.zeroR])
  replace hRK := Lib.hid hRK
  have hz1 : Hid (((w.alloc (.cells Tryd.zeroCells34 34)).alloc (.cells Tryd.zeroCells34 34)).heap[w.heap.size]? = some (.cells Tryd.zeroCells34 34 (0, 0))) := Lib.hid (by rw [heapA9, if_neg (by simp), heapA9, if_pos rfl])
  have hZp : Hid (((w.alloc (.cells Tryd.zeroCells34 34)).alloc (.cells Tryd.zeroCells34 34)).heap[w.heap.size + 1]? = some (.cells Tryd.zeroCells34 34 (0, 0))) := Lib.hid (by rw [heapA9, if_pos (by simp)])
  have hb1 : Below w.heap.size w (w.alloc (.cells Tryd.zeroCells34 34)) := (Below.refl _ _).alloc (Nat.le_refl _) _
  have hb2 := Lib.hid (hb1.alloc (by simp) (.cells Tryd.zeroCells34 34))
  have hs2 : ((w.alloc (.cells Tryd.zeroCells34 34)).alloc (.cells Tryd.zeroCells34 34)).heap.size = w.heap.size + 2 := by simp
  replace hca := Lib.hid hca
  have hc0 := hca.out _ hb1 0 (by omega)
  rw [Nat.add_zero] at hc0
  replace hb1 := Lib.hid hb1
  replace hs2 := Lib.hid hs2
  rw [hk] at hc0
  obtain ⟨L, hL⟩ : ∃ L : Int, (n : Int) = L := ⟨_, rfl⟩
  have hL0 : 0 < L := by omega
  have hL1 : L ≤ 1000 := by omega
  have hlt2 : L < 17 := by omega
  clear hlt
  clear hn hm hk h0
  go_enter Tryd.func16, Tryd.ntmps16
  go_wp2_with (first
    | ((with_reducible show wpList _ _ _ (Oper.mk _ (Op.build 34 _) _ _ _ _ :: _) _ _); refine wpList_buildV rfl 34 [(0, .tmp 17)] rfl [(0, .int .i64 (4))] rfl _ (hbd.out _) ?_)
    | ((with_reducible show wpList _ _ _ (Oper.mk _ (Op.store 34 (.tmp 4) _) _ _ _ _ :: _) _ _); (refine wpList_store_row rfl 34 (.tmp 4) (.tmp 18) rfl (w.heap.size + 1) _ RK rfl rfl hZp i8 z8 hVo ?_); intro w3 hU3; have hP3 := Lib.hid hU3.out.here; have hbw3 := Lib.hid (hb2.out.trans (hU3.out.below (by omega))); have hz3 := Lib.hid ((hU3.out.block _ (by omega)).trans hz1.out); have hs3 : w.heap.size + 2 = w3.heap.size := hs2.out.symm.trans hU3.out.size.symm; replace hs3 := Lib.hid hs3; have k0 := hrk0.out _ _ hP3.out; have hb4 : Below w3.heap.size w3 (w3.alloc (.cells #[.int .i64 0, .int .i64 0, .int .i64 30, .int .i64 26, .int .i64 17] 3)) := (Below.refl _ _).alloc (Nat.le_refl _) _; have hz4 := Lib.hid ((hb4.block _ (block_lt hz3.out)).trans hz3.out); have hP4 := Lib.hid ((hb4.block _ (block_lt hP3.out)).trans hP3.out); have hbw4 := Lib.hid (hbw3.out.trans (hb4.mono hbw3.out.size)); clear hb4; have k0f := hrk0.out _ _ hP4.out)
    | ((with_reducible show wpList _ _ _ (Oper.mk _ (Op.store 34 (.tmp 2) _) _ _ _ _ :: _) _ _); (refine wpList_store_row rfl 34 (.tmp 2) (.tmp 52) rfl w.heap.size _ Tryd.zeroCells34 rfl rfl hz4 iZ rfl hZo ?_); intro w10 hU10))
  refine ret_cell_tmpB rfl rfl hu rfl iZ hU10.out.here ?_
  exact ⟨hZe.out 2, hbw4.out.trans (hU10.out.below (Nat.le_refl _))⟩

set_option maxRecDepth 100000 in
set_option maxHeartbeats 2000000 in
theorem rpars_long4 (bs : List UInt8) (b o c n : Nat)  (w : World) (ha : ArgB w (some ⟨b, o, none⟩) c bs) (hn : bs.length = n) (hm : n ≤ 1000) (h0 : 0 < n) (hk : ((bs.getD 0 0).toNat : Int) = 4) (hlt : 17 < n) : Calls Tryd.prog 16 #[.slice (some ⟨b, o, none⟩) n c] w (RPost Rc.zero 3 w) := by
  have hca := fun W hW => cell_cut ha W hW
  have hnc := Lib.hid (fun W hW => num_cut ha (by omega) W hW)
  rw [hn] at hca
  rw [hn] at hnc
  have hbl : b < w.heap.size := argB_lt ha (by omega)
  have hbd := Lib.hid (build_kindR (4))
  have s78 : (Rc.ofKind (4)).list.toArray.size = 78 := by rw [List.size_toArray, Rc.len (x := Rc.ofKind (4)) z32_len z32_len]
  have i8 : (Tryd.prog.info? 34).map (·.size) = some (Rc.ofKind (4)).list.toArray.size := by rw [s78]; kernel_rfl
  have z8 : (Tryd.zeroCells34).size = (Rc.ofKind (4)).list.toArray.size := by rw [s78]; kernel_rfl
  have hVo := Rc.all_one (Rc.ofKind (4))
  have iZ : (Tryd.prog.info? 34).map (·.size) = some (Tryd.zeroCells34).size := by kernel_rfl
  have hZo : (Tryd.zeroCells34).all (·.oneCell') = true := by rw [Rc.zeroR]; exact Rc.all_one Rc.zero
  have hu := Tryd.underlying34
  have i1 : (Tryd.prog.info? 3).map (·.size) = some 1 := by kernel_rfl
  have hrk0 : ∀ (W : World) g, W.heap[g]? = some (.cells (Rc.ofKind (4)).list.toArray 34 (0, 0)) → W.cell? ⟨g, 0, none⟩ = some (.int .i64 (4)) := fun W g h => by rw [cell_of_block h]; rfl
  replace hrk0 := Lib.hid hrk0
  generalize hRK : (Rc.ofKind (4)).list.toArray = RK at *
  have hZe : Hid (∀ m : Int, Ending.returned (.tuple #[.agg Tryd.zeroCells34, .int .i64 m]) = Ending.returned (.tuple #[.agg Rc.zero.list.toArray, .int .i64 m])) := Lib.hid (fun v => by rw [Rc.zeroR])
  replace hRK := Lib.hid hRK
  have hz1 : Hid (((w.alloc (.cells Tryd.zeroCells34 34)).alloc (.cells Tryd.zeroCells34 34)).heap[w.heap.size]? = some (.cells Tryd.zeroCells34 34 (0, 0))) := Lib.hid (by rw [heapA9, if_neg (by simp), heapA9, if_pos rfl])
  have hZp : Hid (((w.alloc (.cells Tryd.zeroCells34 34)).alloc (.cells Tryd.zeroCells34 34)).heap[w.heap.size + 1]? = some (.cells Tryd.zeroCells34 34 (0, 0))) := Lib.hid (by rw [heapA9, if_pos (by simp)])
  have hb1 : Below w.heap.size w (w.alloc (.cells Tryd.zeroCells34 34)) := (Below.refl _ _).alloc (Nat.le_refl _) _
  have hb2 := Lib.hid (hb1.alloc (by simp) (.cells Tryd.zeroCells34 34))
  have hs2 : ((w.alloc (.cells Tryd.zeroCells34 34)).alloc (.cells Tryd.zeroCells34 34)).heap.size = w.heap.size + 2 := by simp
  replace hca := Lib.hid hca
  have hc0 := hca.out _ hb1 0 (by omega)
  rw [Nat.add_zero] at hc0
  replace hb1 := Lib.hid hb1
  replace hs2 := Lib.hid hs2
  rw [hk] at hc0
  obtain ⟨L, hL⟩ : ∃ L : Int, (n : Int) = L := ⟨_, rfl⟩
  have hL0 : 0 < L := by omega
  have hL1 : L ≤ 1000 := by omega
  have hlt2 : 17 < L := by omega
  clear hlt
  clear hn hm hk h0
  go_enter Tryd.func16, Tryd.ntmps16
  go_wp2_with (first
    | ((with_reducible show wpList _ _ _ (Oper.mk _ (Op.build 34 _) _ _ _ _ :: _) _ _); refine wpList_buildV rfl 34 [(0, .tmp 17)] rfl [(0, .int .i64 (4))] rfl _ (hbd.out _) ?_)
    | ((with_reducible show wpList _ _ _ (Oper.mk _ (Op.store 34 (.tmp 4) _) _ _ _ _ :: _) _ _); (refine wpList_store_row rfl 34 (.tmp 4) (.tmp 18) rfl (w.heap.size + 1) _ RK rfl rfl hZp i8 z8 hVo ?_); intro w3 hU3; have hP3 := Lib.hid hU3.out.here; have hbw3 := Lib.hid (hb2.out.trans (hU3.out.below (by omega))); have hz3 := Lib.hid ((hU3.out.block _ (by omega)).trans hz1.out); have hs3 : w.heap.size + 2 = w3.heap.size := hs2.out.symm.trans hU3.out.size.symm; replace hs3 := Lib.hid hs3; have k0 := hrk0.out _ _ hP3.out; have hb4 : Below w3.heap.size w3 (w3.alloc (.cells #[.int .i64 0, .int .i64 0, .int .i64 30, .int .i64 26, .int .i64 17] 3)) := (Below.refl _ _).alloc (Nat.le_refl _) _; have hz4 := Lib.hid ((hb4.block _ (block_lt hz3.out)).trans hz3.out); have hP4 := Lib.hid ((hb4.block _ (block_lt hP3.out)).trans hP3.out); have hbw4 := Lib.hid (hbw3.out.trans (hb4.mono hbw3.out.size)); clear hb4; have k0f := hrk0.out _ _ hP4.out)
    | ((with_reducible show wpList _ _ _ (Oper.mk _ (Op.store 34 (.tmp 2) _) _ _ _ _ :: _) _ _); (refine wpList_store_row rfl 34 (.tmp 2) (.tmp 57) rfl w.heap.size _ Tryd.zeroCells34 rfl rfl hz4 iZ rfl hZo ?_); intro w10 hU10))
  refine ret_cell_tmpB rfl rfl hu rfl iZ hU10.out.here ?_
  exact ⟨hZe.out 3, hbw4.out.trans (hU10.out.below (Nat.le_refl _))⟩

end Go.Proofs.YtahnicbokdbjdaaDoor
