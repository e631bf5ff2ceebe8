/- record.Parse of a right record's bytes, kind 1. Printed by genpgood.py. -/
import Derived.Test.YtahnicbokdbjdaaDoorF34ParsSaid20
namespace Go.Proofs.YtahnicbokdbjdaaDoor
open Go.RowKit
set_option linter.unusedVariables false

set_option maxRecDepth 100000 in
set_option maxHeartbeats 2000000 in
theorem parse_good1 (x : Rc) (hx : x.Ok) (hk : x.kind = 1) (hc : x.chk = 0) (a : Option Addr) (c : Nat) (n : Nat) (w : World) (ha : ArgB w a c x.out) (hn : x.out.length = n) (hm : n ≤ 1000) (haf : ∀ ad, a = some ad → ∃ b o, ad = ⟨b, o, none⟩ ∧ b < w.heap.size) (ea : Nat → Addr) (H : Errs 132 errGs w ea) :
    Calls Tryd.prog 14 #[.slice a n c] w (PGood x w) := by
  have hbk := back1 x hx hk hc
  obtain ⟨w1, hw1⟩ : ∃ w1, w1 = (w.alloc (.cells Tryd.zeroCells31 31)).alloc (.cells #[.slice a n c, .bool false] 66) := ⟨_, rfl⟩
  have hb1 : Below w.heap.size w w1 := by rw [hw1]; exact ((Below.refl _ _).alloc (Nat.le_refl _) _).alloc (by simp) _
  have hs1 : w1.heap.size = w.heap.size + 2 := by rw [hw1]; simp
  have hz1 : w1.heap[w.heap.size]? = some (.cells Tryd.zeroCells31 31 (0, 0)) := by rw [hw1, heapA9, if_neg (by simp), heapA9, if_pos rfl]
  have hq1 : w1.heap[w.heap.size + 1]? = some (.cells #[.slice a n c, .bool false] 66 (0, 0)) := by rw [hw1, heapA9, if_pos (by simp)]
  have hr1 : RdM w1 (w.heap.size + 1) w.heap.size (x.out, false).1 (x.out, false).2 := by
    refine ⟨a, c, by rw [hn]; exact hq1, ha.below hb1, fun ad e => ?_⟩
    obtain ⟨b, o, h1, h2⟩ := haf ad e
    exact ⟨b, o, h1, by omega, h2⟩
  have hn0 : ∀ W, RdM W (w.heap.size + 1) w.heap.size (x.out, false).1 (x.out, false).2 → Calls Tryd.prog 31 #[.pointer (some ⟨w.heap.size + 1, 0, none⟩), .int .i64 1] W fun e w2 => e = .returned (.int .i64 1) ∧ RdM w2 (w.heap.size + 1) w.heap.size (nB (x.out, false) 1).1 (nB (x.out, false) 1).2 ∧ Only (fun k => k = w.heap.size + 1) W w2 := by
    intro W h
    have h := number_at (w.heap.size + 1) w.heap.size (x.out, false) 1 W h (by decide) (by show x.out.length ≤ 1000000; omega)
    rw [hbk.1] at h
    exact h
  have hsf := snd_one x
  have hml : (nB (x.out, false) 1).1.length ≤ 1000000 := Nat.le_trans (nB_le _ _) (by show x.out.length ≤ 1000000; omega)
  have hrest : ∀ W pp, W.heap[pp]? = some (.cells (Rc.ofKind 1).list.toArray 31 (0, 0)) → RdM W (w.heap.size + 1) w.heap.size (nB (x.out, false) 1).1 (nB (x.out, false) 1).2 → pp ≠ w.heap.size + 1 → w.heap.size ≤ pp → Calls Tryd.prog 32 #[.pointer (some ⟨w.heap.size + 1, 0, none⟩), .pointer (some ⟨pp, 0, none⟩)] W fun e w2 => ∃ g cc, e = .returned (.slice (some ⟨g, 0, none⟩) 9 cc) ∧ ArgB w2 (some ⟨g, 0, none⟩) cc (bytesL x.p.s x.p.n x.p.k x.p.d x.p.t x.p.r) ∧ w2.heap[pp]? = some (.cells ({ x with p := P6.zero } : Rc).list.toArray 31 (0, 0)) ∧ RdM w2 (w.heap.size + 1) w.heap.size [] false ∧ Only (fun k => k = pp ∨ k = w.heap.size + 1) W w2 := fun W pp h1 h2 h3 h4 => by
    have h := rest_k1 pp (w.heap.size + 1) w.heap.size (Rc.ofKind 1) (nB (x.out, false) 1) W z32_len z32_len rfl h1 h2 h3 h4 hml
    refine h.mono ?_
    rintro e w2 ⟨g, cc, h5, h6, _, h7, h8, h9⟩
    rw [hbk.2.1] at h7
    rw [hbk.2.2.1] at h8
    rw [hbk.2.2.2] at h6
    exact ⟨g, cc, h5, h6, h7, h8, h9⟩
  have hck := Lib.hid (fun W h => check0 x hx hc ea W h)
  have hbd := Lib.hid build_kind1
  have s78 : (Rc.ofKind 1).list.toArray.size = 78 := by rw [List.size_toArray, Rc.len (x := Rc.ofKind 1) z32_len z32_len]
  have i8 : (Tryd.prog.info? 31).map (·.size) = some (Rc.ofKind 1).list.toArray.size := by rw [s78]; kernel_rfl
  have z8 : (Tryd.zeroCells31).size = (Rc.ofKind 1).list.toArray.size := by rw [s78]; kernel_rfl
  have hVo := Rc.all_one (Rc.ofKind 1)
  have iX : (Tryd.prog.info? 31).map (·.size) = some x.list.toArray.size := by rw [Rc.size hx]; kernel_rfl
  have zX : (Tryd.zeroCells31).size = x.list.toArray.size := by rw [Rc.size hx]; kernel_rfl
  have hXo := Rc.all_one x
  have hu := Tryd.underlying31
  have hrk0 : ∀ (W : World) b, W.heap[b]? = some (.cells (Rc.ofKind 1).list.toArray 31 (0, 0)) → W.cell? ⟨b, 0, none⟩ = some (.int .i64 1) := fun W b h => by rw [cell_of_block h]; rfl
  generalize (Rc.ofKind 1).list.toArray = RK at *
  have hpar : ∀ W g cc, ArgB W (some ⟨g, 0, none⟩) cc (bytesL x.p.s x.p.n x.p.k x.p.d x.p.t x.p.r) → Errs 132 errGs W ea → Calls Tryd.prog 33 #[.slice (some ⟨g, 0, none⟩) 9 cc] W fun e w2 => e = .returned (.tuple #[.agg x.p.list.toArray, .nilIface]) ∧ Below W.heap.size W w2 := fun W g cc h1 h2 => ppar_good x.p ((Rc.chk0 hc).2.2.2 hk).2 g cc W h1 ea h2
  have hpat : patch ({ x with p := P6.zero } : Rc).list.toArray 4 x.p.list.toArray.toList = x.list.toArray := by rw [List.toList_toArray, Rc.patch_p]
  have hpsz : 4 + x.p.list.toArray.size ≤ ({ x with p := P6.zero } : Rc).list.toArray.size := by rw [List.size_toArray, List.size_toArray, Rc.len (x := ({ x with p := P6.zero } : Rc)) hx.root hx.file, P6.len]; decide
  have ip : (Tryd.prog.info? 27).map (·.size) = some x.p.list.toArray.size := by rw [List.size_toArray, P6.len]; kernel_rfl
  have zp : (#[.int .i64 0, .int .i64 0, .int .i64 0, .int .i64 0, .int .i64 0, .int .i64 0] : Array Value).size = x.p.list.toArray.size := rfl
  have op := arr_one (P6.one x.p)
  have hup := Tryd.underlying27
  generalize x.p.list.toArray = PP at *
  generalize ({ x with p := P6.zero } : Rc).list.toArray = Y at *
  replace hpar := Lib.hid hpar
  replace hpat := Lib.hid hpat
  have hpost : ∀ W, Below w.heap.size w W → PGood x w (.returned (.tuple #[.agg x.list.toArray, .nilIface])) W := fun W h => ⟨rfl, h⟩
  generalize hX : x.list.toArray = X at *
  generalize nB (x.out, false) 1 = s1 at *
  obtain ⟨q, hq⟩ : ∃ q, q = w.heap.size + 1 := ⟨_, rfl⟩
  obtain ⟨B, hBd⟩ : ∃ B, B = w.heap.size := ⟨_, rfl⟩
  replace hw1 := Lib.hid hw1
  replace hn0 := Lib.hid hn0
  replace hrest := Lib.hid hrest
  replace hr1 := Lib.hid hr1
  replace hz1 := Lib.hid hz1
  replace hb1 := Lib.hid hb1
  replace H := Lib.hid H
  replace hpost := Lib.hid hpost
  replace hrk0 := Lib.hid hrk0
  clear hbk hn hm haf ha hq1 hml hX hc hk hx
  go_enter Tryd.func14, Tryd.ntmps14
  go_wp2_with fail
  rw [← hw1.out]
  with_reducible refine (hn0.out _ hr1.out).mono ?_
  rintro e wa ⟨rfl, hra, hoa⟩
  have hza := Lib.hid (hoa.heap hz1.out (by omega))
  have hsa := hoa.size
  have hOa : Only (fun k => k = w.heap.size + 1) w1 wa := hoa
  have hna : w.heap.size + 1 < wa.heap.size := by omega
  have hZp := Lib.hid (heap_alloc_new wa (.cells Tryd.zeroCells31 31))
  have hba : Below w.heap.size w wa := hb1.out.trans (hoa.below (by omega) (fun k e => by omega))
  replace hra := Lib.hid hra
  replace hba := Lib.hid hba
  clear hoa hOa
  go_wp2_with (first
    | ((with_reducible show wpList _ _ _ (Oper.mk _ (Op.build 31 _) _ _ _ _ :: _) _ _); refine wpList_buildV rfl 31 [(0, .tmp 14)] rfl [(0, .int .i64 1)] rfl _ (hbd.out _) ?_)
    | ((with_reducible show wpList _ _ _ (Oper.mk _ (Op.store 31 (.tmp 5) _) _ _ _ _ :: _) _ _); (refine wpList_store_row rfl 31 (.tmp 5) (.tmp 15) rfl wa.heap.size _ RK rfl rfl hZp i8 z8 hVo ?_); intro w3 hU3; have hP3 := Lib.hid hU3.out.here; have hb3 := Lib.hid ((Below.alloc (Below.refl wa.heap.size wa) (Nat.le_refl _) (.cells Tryd.zeroCells31 31)).trans (hU3.out.below (Nat.le_refl _))); have hr3 := Lib.hid (hra.out.only (D := fun _ => False) (Only.ofBelow hb3.out) (fun e => e) (fun k e => e.elim)); have hz3 := Lib.hid ((hb3.out.block _ (block_lt hza.out)).trans hza.out); have k0 := hrk0.out _ _ hP3.out; obtain ⟨a3, c3, hq3, _⟩ := hr3.out; rw [hsf] at hq3; have j1 := cell_of_block hq3 1; have hbw3 := Lib.hid (hba.out.trans (hb3.out.mono hba.out.size)); clear hq3))
  with_reducible refine (within_any 1 1 4 _).mono ?_
  rintro e w4 ⟨rfl, rfl⟩
  have hi4 : inB 1 1 4 = true := by decide
  go_wp2_with fail
  with_reducible refine (hrest.out _ _ hP3.out hr3.out (by omega) (by omega)).mono ?_
  rintro e w5 ⟨gp, cp, rfl, hgp, hP5, hr5, ho5⟩
  have hz5 := Lib.hid (ho5.heap hz3.out (by omega))
  have hbw5 := Lib.hid (hbw3.out.trans (ho5.below hbw3.out.size (fun k e => by omega)))
  obtain ⟨a5, c5, hq5, _⟩ := hr5
  clear j1 k0
  have j1 := cell_of_block hq5 1
  have j0 := cell_of_block hq5 0
  clear hq5 ho5
  replace hP5 := Lib.hid hP5
  have hH5 := Lib.hid (H.out.below hbw5.out)
  replace hgp := Lib.hid hgp
  have hnl := fun W => @Lib.run_eql_slice_nil Tryd.prog W 36 5 (some ⟨gp, 0, none⟩) 9 cp 0 0 Tryd.underlying36
  go_wp2_with fail
  with_reducible refine (hpar.out _ _ _ hgp.out hH5.out).mono ?_
  rintro e w7 ⟨rfl, hb7⟩
  have hP7 := Lib.hid ((hb7.block _ (block_lt hP5.out)).trans hP5.out)
  have hz7 := Lib.hid ((hb7.block _ (block_lt hz5.out)).trans hz5.out)
  have hbw7 := Lib.hid (hbw5.out.trans (hb7.mono hbw5.out.size))
  have hs7 : w.heap.size ≤ w7.heap.size := hbw7.out.size
  clear hb7 j0 j1
  have hZ7 := Lib.hid (heap_alloc_new w7 (.cells #[.int .i64 0, .int .i64 0, .int .i64 0, .int .i64 0, .int .i64 0, .int .i64 0] 27))
  go_wp2_with (first
    | ((with_reducible show wpList _ _ _ (Oper.mk _ (Op.store 27 (.tmp 7) _) _ _ _ _ :: _) _ _); (refine wpList_store_row rfl 27 (.tmp 7) (.tmp 54) rfl w7.heap.size _ PP rfl rfl hZ7 ip zp op ?_); intro w8 hU8; have hb8 := Lib.hid ((Below.alloc (Below.refl w7.heap.size w7) (Nat.le_refl _) _).trans (hU8.out.below (Nat.le_refl _))); have hP8 := Lib.hid ((hb8.out.block _ (block_lt hP7.out)).trans hP7.out); have hz8 := Lib.hid ((hb8.out.block _ (block_lt hz7.out)).trans hz7.out); have hbw8 := Lib.hid (hbw7.out.trans (hb8.out.mono hbw7.out.size)); have hp8 := Lib.hid hU8.out.here)
    | ((with_reducible show wpList _ _ _ (Oper.mk _ (Op.load 27 (.tmp 7)) _ _ _ _ :: _) _ _); refine wpList_load_row rfl 27 (.tmp 7) rfl w7.heap.size PP _ rfl hp8 hup rfl ip ?_)
    | ((with_reducible show wpList _ _ _ (Oper.mk _ (Op.store 27 (.tmp 61) _) _ _ _ _ :: _) _ _); (refine wpList_store_midU rfl 27 31 (.tmp 61) (.tmp 60) rfl wa.heap.size 4 Y PP rfl rfl hP8 ip hpsz op ?_); intro w9 hU9; rw [hpat.out] at hU9; have hP9 := Lib.hid hU9.out.here; have hz9 := Lib.hid ((hU9.out.block _ (by omega)).trans hz8.out); have hbw9 := Lib.hid (hbw8.out.trans (hU9.out.below (by omega))))
    | (with_reducible refine wpList_load_row rfl 31 (.tmp 5) rfl wa.heap.size X _ rfl hP9 hu rfl iX ?_))
  have hH9 := Lib.hid (H.out.below hbw9.out)
  with_reducible refine (hck.out _ hH9.out).mono ?_
  rintro e w6 ⟨rfl, hb6⟩
  have hP6 := Lib.hid ((hb6.block _ (block_lt hP9.out)).trans hP9.out)
  have hz6 := Lib.hid ((hb6.block _ (block_lt hz9.out)).trans hz9.out)
  have hbw6 := Lib.hid (hbw9.out.trans (hb6.mono hbw9.out.size))
  clear hb6
  go_wp2_with (first
    | (with_reducible refine wpList_load_row rfl 31 (.tmp 5) rfl wa.heap.size X _ rfl hP6 hu rfl iX ?_)
    | ((with_reducible show wpList _ _ _ (Oper.mk _ (Op.store 31 (.tmp 2) _) _ _ _ _ :: _) _ _); (refine wpList_store_row rfl 31 (.tmp 2) (.tmp 68) rfl w.heap.size _ X rfl rfl hz6 iX zX hXo ?_); intro w10 hU10))
  exact ret_cell_tmpB rfl rfl hu rfl iX hU10.out.here (hpost.out _ (hbw6.out.trans (hU10.out.below (Nat.le_refl _))))

end Go.Proofs.YtahnicbokdbjdaaDoor
