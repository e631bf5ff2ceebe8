/- record.Parse of a right record's bytes. Printed by genpgood.py. -/
import Derived.Test.YtahnicbokdbjdaaDoorF30ParsSaid20
import Derived.Test.YtahnicbokdbjdaaDoorF31ParsSaid20
import Derived.Test.YtahnicbokdbjdaaDoorF32ParsSaid20
namespace Go.Proofs.YtahnicbokdbjdaaDoor
open Go.RowKit
set_option linter.unusedVariables false
theorem argB_cells {w : World} {b o c : Nat} {bs : List UInt8} (h : ArgB w (some ⟨b, o, none⟩) c bs) (i : Nat) (hi : i < bs.length) : w.cell? ⟨b, o + i, none⟩ = some (.int .u8 ((bs.getD i 0).toNat : Int)) := by
  obtain ⟨b2, off, e, hc⟩ := h.row i hi
  cases e
  exact hc
theorem snd_one (x : Rc) : (nB (x.out, false) 1).2 = false := by
  have h : ¬ x.out.length < 1 := by
    unfold Rc.out Rc.head
    split
    · simp
    · split
      · simp
      · split <;> simp
  show takeS x.out false 1 = false
  unfold takeS
  refine if_neg fun hh => ?_
  rcases hh with hh | hh
  · cases hh
  · exact h hh
/-- Parse of right parameters' bytes. -/
theorem ppar_good (p : P6) (h : badAt p.s p.n p.k p.d p.t p.r = none) (g cc : Nat) (w : World) (hA : ArgB w (some ⟨g, 0, none⟩) cc (bytesL p.s p.n p.k p.d p.t p.r)) (ea : Nat → Addr) (H : Errs 132 errGs w ea) :
    Calls Tryd.prog 33 #[.slice (some ⟨g, 0, none⟩) 9 cc] w fun e w2 => e = .returned (.tuple #[.agg p.list.toArray, .nilIface]) ∧ Below w.heap.size w w2 := by
  obtain ⟨s, n, k, d, t, r⟩ := p
  obtain ⟨hs, hn, hk, hd, ht, hr⟩ : ParOk s n k d t r := badAt_ok h
  replace hA : ArgB w (some ⟨g, 0, none⟩) cc (bytesL s n k d t r) := hA
  replace h : badAt s n k d t r = none := h
  have hc := argB_cells hA
  have hl : (bytesL s n k d t r).length = 9 := rfl
  have v1 : ((b8 (s / 256)).toNat : Int) * 256 + (b8 s).toNat = s := by rw [b8_val (s / 256) (by omega), b8_mod s]; omega
  have v2 : ((b8 (d / 256)).toNat : Int) * 256 + (b8 d).toNat = d := by rw [b8_val (d / 256) (by omega), b8_mod d]; omega
  have v3 : ((b8 (t / 256)).toNat : Int) * 256 + (b8 t).toNat = t := by rw [b8_val (t / 256) (by omega), b8_mod t]; omega
  have v4 := b8_val n (by omega)
  have v5 := b8_val k (by omega)
  have v6 := b8_val r (by omega)
  have hh : badAt (((b8 (s / 256)).toNat : Int) * 256 + (b8 s).toNat) ((b8 n).toNat : Int) ((b8 k).toNat : Int) (((b8 (d / 256)).toNat : Int) * 256 + (b8 d).toNat) (((b8 (t / 256)).toNat : Int) * 256 + (b8 t).toNat) ((b8 r).toNat : Int) = none := by rw [v1, v2, v3, v4, v5, v6]; exact h
  have hp := parse_right g 0 cc (b8 (s / 256)) (b8 s) (b8 n) (b8 k) (b8 (d / 256)) (b8 d) (b8 (t / 256)) (b8 t) (b8 r) (by have := hA.len; rw [hl] at this; exact this) w hh (pz ea) (par_of H) (hc 0 (by rw [hl]; decide)) (hc 1 (by rw [hl]; decide)) (hc 2 (by rw [hl]; decide)) (hc 3 (by rw [hl]; decide)) (hc 4 (by rw [hl]; decide)) (hc 5 (by rw [hl]; decide)) (hc 6 (by rw [hl]; decide)) (hc 7 (by rw [hl]; decide)) (hc 8 (by rw [hl]; decide))
  rw [v1, v2, v3, v4, v5, v6] at hp
  exact hp

set_option maxRecDepth 100000 in
theorem build_kind1 (W : World) : (Instr.build 31 #[(0, .int .i64 1)]).run Tryd.prog W = .ok (.agg (Rc.ofKind 1).list.toArray) W := by
  refine run_build W _ _ _ ?_
  kernel_rfl
set_option maxRecDepth 100000 in
theorem build_kind2 (W : World) : (Instr.build 31 #[(0, .int .i64 2)]).run Tryd.prog W = .ok (.agg (Rc.ofKind 2).list.toArray) W := by
  refine run_build W _ _ _ ?_
  kernel_rfl
set_option maxRecDepth 100000 in
theorem build_kind3 (W : World) : (Instr.build 31 #[(0, .int .i64 3)]).run Tryd.prog W = .ok (.agg (Rc.ofKind 3).list.toArray) W := by
  refine run_build W _ _ _ ?_
  kernel_rfl
set_option maxRecDepth 100000 in
theorem build_kind4 (W : World) : (Instr.build 31 #[(0, .int .i64 4)]).run Tryd.prog W = .ok (.agg (Rc.ofKind 4).list.toArray) W := by
  refine run_build W _ _ _ ?_
  kernel_rfl

def PGood (x : Rc) (w : World) (e : Ending) (w' : World) : Prop := e = .returned (.tuple #[.agg x.list.toArray, .nilIface]) ∧ Below w.heap.size w w'

set_option maxRecDepth 100000 in
set_option maxHeartbeats 2000000 in
theorem parse_good4 (x : Rc) (hx : x.Ok) (hk : x.kind = 4) (hc : x.chk = 0) (a : Option Addr) (c : Nat) (n : Nat) (w : World) (ha : ArgB w a c x.out) (hn : x.out.length = n) (hm : n ≤ 1000) (haf : ∀ ad, a = some ad → ∃ b o, ad = ⟨b, o, none⟩ ∧ b < w.heap.size) (ea : Nat → Addr) (H : Errs 132 errGs w ea) :
    Calls Tryd.prog 14 #[.slice a n c] w (PGood x w) := by
  have hbk := back4 x hk hc
  obtain ⟨w1, hw1⟩ : ∃ w1, w1 = (w.alloc (.cells Tryd.zeroCells31 31)).alloc (.cells #[.slice a n c, .bool false] 66) := ⟨_, rfl⟩
  have hb1 : Below w.heap.size w w1 := by rw [hw1]; exact ((Below.refl _ _).alloc (Nat.le_refl _) _).alloc (by simp) _
  have hs1 : w1.heap.size = w.heap.size + 2 := by rw [hw1]; simp
  have hz1 : w1.heap[w.heap.size]? = some (.cells Tryd.zeroCells31 31 (0, 0)) := by rw [hw1, heapA9, if_neg (by simp), heapA9, if_pos rfl]
  have hq1 : w1.heap[w.heap.size + 1]? = some (.cells #[.slice a n c, .bool false] 66 (0, 0)) := by rw [hw1, heapA9, if_pos (by simp)]
  have hr1 : RdM w1 (w.heap.size + 1) w.heap.size (x.out, false).1 (x.out, false).2 := by
    refine ⟨a, c, by rw [hn]; exact hq1, ha.below hb1, fun ad e => ?_⟩
    obtain ⟨b, o, h1, h2⟩ := haf ad e
    exact ⟨b, o, h1, by omega, h2⟩
  have hn0 : ∀ W, RdM W (w.heap.size + 1) w.heap.size (x.out, false).1 (x.out, false).2 → Calls Tryd.prog 31 #[.pointer (some ⟨w.heap.size + 1, 0, none⟩), .int .i64 1] W fun e w2 => e = .returned (.int .i64 4) ∧ RdM w2 (w.heap.size + 1) w.heap.size (nB (x.out, false) 1).1 (nB (x.out, false) 1).2 ∧ Only (fun k => k = w.heap.size + 1) W w2 := by
    intro W h
    have h := number_at (w.heap.size + 1) w.heap.size (x.out, false) 1 W h (by decide) (by show x.out.length ≤ 1000000; omega)
    rw [hbk.1] at h
    exact h
  have hsf := snd_one x
  have hml : (nB (x.out, false) 1).1.length ≤ 1000000 := Nat.le_trans (nB_le _ _) (by show x.out.length ≤ 1000000; omega)
  have hrest : ∀ W pp, W.heap[pp]? = some (.cells (Rc.ofKind 4).list.toArray 31 (0, 0)) → RdM W (w.heap.size + 1) w.heap.size (nB (x.out, false) 1).1 (nB (x.out, false) 1).2 → pp ≠ w.heap.size + 1 → w.heap.size ≤ pp → Calls Tryd.prog 32 #[.pointer (some ⟨w.heap.size + 1, 0, none⟩), .pointer (some ⟨pp, 0, none⟩)] W fun e w2 => e = .returned (.slice none 0 0) ∧ w2.heap[pp]? = some (.cells x.list.toArray 31 (0, 0)) ∧ RdM w2 (w.heap.size + 1) w.heap.size [] false ∧ Only (fun k => k = pp ∨ k = w.heap.size + 1) W w2 := fun W pp h1 h2 h3 h4 => by
    have h := rest_k4 pp (w.heap.size + 1) w.heap.size (Rc.ofKind 4) (nB (x.out, false) 1) W z32_len z32_len rfl h1 h2 h3 h4 hml
    rw [hbk.2.1, hbk.2.2] at h
    exact h
  have hck := Lib.hid (fun W h => check0 x hx hc ea W h)
  have hbd := Lib.hid build_kind4
  have s78 : (Rc.ofKind 4).list.toArray.size = 78 := by rw [List.size_toArray, Rc.len (x := Rc.ofKind 4) z32_len z32_len]
  have i8 : (Tryd.prog.info? 31).map (·.size) = some (Rc.ofKind 4).list.toArray.size := by rw [s78]; kernel_rfl
  have z8 : (Tryd.zeroCells31).size = (Rc.ofKind 4).list.toArray.size := by rw [s78]; kernel_rfl
  have hVo := Rc.all_one (Rc.ofKind 4)
  have iX : (Tryd.prog.info? 31).map (·.size) = some x.list.toArray.size := by rw [Rc.size hx]; kernel_rfl
  have zX : (Tryd.zeroCells31).size = x.list.toArray.size := by rw [Rc.size hx]; kernel_rfl
  have hXo := Rc.all_one x
  have hu := Tryd.underlying31
  have hrk0 : ∀ (W : World) b, W.heap[b]? = some (.cells (Rc.ofKind 4).list.toArray 31 (0, 0)) → W.cell? ⟨b, 0, none⟩ = some (.int .i64 4) := fun W b h => by rw [cell_of_block h]; rfl
  generalize (Rc.ofKind 4).list.toArray = RK at *
  have hpost : ∀ W, Below w.heap.size w W → PGood x w (.returned (.tuple #[.agg x.list.toArray, .nilIface])) W := fun W h => ⟨rfl, h⟩
  generalize hX : x.list.toArray = X at *
  generalize nB (x.out, false) 1 = s1 at *
  obtain ⟨q, hq⟩ : ∃ q, q = w.heap.size + 1 := ⟨_, rfl⟩
  obtain ⟨B, hBd⟩ : ∃ B, B = w.heap.size := ⟨_, rfl⟩
  replace hw1 := Lib.hid hw1
  replace hn0 := Lib.hid hn0
  replace hrest := Lib.hid hrest
  replace hr1 := Lib.hid hr1
  replace hz1 := Lib.hid hz1
  replace hb1 := Lib.hid hb1
  replace H := Lib.hid H
  replace hpost := Lib.hid hpost
  replace hrk0 := Lib.hid hrk0
  clear hbk hn hm haf ha hq1 hml hX hc hk hx
  go_enter Tryd.func14, Tryd.ntmps14
  go_wp2_with fail
  rw [← hw1.out]
  with_reducible refine (hn0.out _ hr1.out).mono ?_
  rintro e wa ⟨rfl, hra, hoa⟩
  have hza := Lib.hid (hoa.heap hz1.out (by omega))
  have hsa := hoa.size
  have hOa : Only (fun k => k = w.heap.size + 1) w1 wa := hoa
  have hna : w.heap.size + 1 < wa.heap.size := by omega
  have hZp := Lib.hid (heap_alloc_new wa (.cells Tryd.zeroCells31 31))
  have hba : Below w.heap.size w wa := hb1.out.trans (hoa.below (by omega) (fun k e => by omega))
  replace hra := Lib.hid hra
  replace hba := Lib.hid hba
  clear hoa hOa
  go_wp2_with (first
    | ((with_reducible show wpList _ _ _ (Oper.mk _ (Op.build 31 _) _ _ _ _ :: _) _ _); refine wpList_buildV rfl 31 [(0, .tmp 14)] rfl [(0, .int .i64 4)] rfl _ (hbd.out _) ?_)
    | ((with_reducible show wpList _ _ _ (Oper.mk _ (Op.store 31 (.tmp 5) _) _ _ _ _ :: _) _ _); (refine wpList_store_row rfl 31 (.tmp 5) (.tmp 15) rfl wa.heap.size _ RK rfl rfl hZp i8 z8 hVo ?_); intro w3 hU3; have hP3 := Lib.hid hU3.out.here; have hb3 := Lib.hid ((Below.alloc (Below.refl wa.heap.size wa) (Nat.le_refl _) (.cells Tryd.zeroCells31 31)).trans (hU3.out.below (Nat.le_refl _))); have hr3 := Lib.hid (hra.out.only (D := fun _ => False) (Only.ofBelow hb3.out) (fun e => e) (fun k e => e.elim)); have hz3 := Lib.hid ((hb3.out.block _ (block_lt hza.out)).trans hza.out); have k0 := hrk0.out _ _ hP3.out; obtain ⟨a3, c3, hq3, _⟩ := hr3.out; rw [hsf] at hq3; have j1 := cell_of_block hq3 1; have hbw3 := Lib.hid (hba.out.trans (hb3.out.mono hba.out.size)); clear hq3))
  with_reducible refine (within_any 4 1 4 _).mono ?_
  rintro e w4 ⟨rfl, rfl⟩
  have hi4 : inB 4 1 4 = true := by decide
  go_wp2_with fail
  with_reducible refine (hrest.out _ _ hP3.out hr3.out (by omega) (by omega)).mono ?_
  rintro e w5 ⟨rfl, hP5, hr5, ho5⟩
  have hz5 := Lib.hid (ho5.heap hz3.out (by omega))
  have hbw5 := Lib.hid (hbw3.out.trans (ho5.below hbw3.out.size (fun k e => by omega)))
  obtain ⟨a5, c5, hq5, _⟩ := hr5
  clear j1 k0
  have j1 := cell_of_block hq5 1
  have j0 := cell_of_block hq5 0
  clear hq5 ho5
  replace hP5 := Lib.hid hP5
  have hH5 := Lib.hid (H.out.below hbw5.out)
  go_wp2_with (with_reducible refine wpList_load_row rfl 31 (.tmp 5) rfl wa.heap.size X _ rfl hP5 hu rfl iX ?_)
  with_reducible refine (hck.out _ hH5.out).mono ?_
  rintro e w6 ⟨rfl, hb6⟩
  have hP6 := Lib.hid ((hb6.block _ (block_lt hP5.out)).trans hP5.out)
  have hz6 := Lib.hid ((hb6.block _ (block_lt hz5.out)).trans hz5.out)
  have hbw6 := Lib.hid (hbw5.out.trans (hb6.mono hbw5.out.size))
  clear hb6 j0 j1
  go_wp2_with (first
    | (with_reducible refine wpList_load_row rfl 31 (.tmp 5) rfl wa.heap.size X _ rfl hP6 hu rfl iX ?_)
    | ((with_reducible show wpList _ _ _ (Oper.mk _ (Op.store 31 (.tmp 2) _) _ _ _ _ :: _) _ _); (refine wpList_store_row rfl 31 (.tmp 2) (.tmp 68) rfl w.heap.size _ X rfl rfl hz6 iX zX hXo ?_); intro w10 hU10))
  exact ret_cell_tmpB rfl rfl hu rfl iX hU10.out.here (hpost.out _ (hbw6.out.trans (hU10.out.below (Nat.le_refl _))))

set_option maxRecDepth 100000 in
set_option maxHeartbeats 2000000 in
theorem parse_good3 (x : Rc) (hx : x.Ok) (hk : x.kind = 3) (hc : x.chk = 0) (a : Option Addr) (c : Nat) (n : Nat) (w : World) (ha : ArgB w a c x.out) (hn : x.out.length = n) (hm : n ≤ 1000) (haf : ∀ ad, a = some ad → ∃ b o, ad = ⟨b, o, none⟩ ∧ b < w.heap.size) (ea : Nat → Addr) (H : Errs 132 errGs w ea) :
    Calls Tryd.prog 14 #[.slice a n c] w (PGood x w) := by
  have hbk := back3 x hk hc
  obtain ⟨w1, hw1⟩ : ∃ w1, w1 = (w.alloc (.cells Tryd.zeroCells31 31)).alloc (.cells #[.slice a n c, .bool false] 66) := ⟨_, rfl⟩
  have hb1 : Below w.heap.size w w1 := by rw [hw1]; exact ((Below.refl _ _).alloc (Nat.le_refl _) _).alloc (by simp) _
  have hs1 : w1.heap.size = w.heap.size + 2 := by rw [hw1]; simp
  have hz1 : w1.heap[w.heap.size]? = some (.cells Tryd.zeroCells31 31 (0, 0)) := by rw [hw1, heapA9, if_neg (by simp), heapA9, if_pos rfl]
  have hq1 : w1.heap[w.heap.size + 1]? = some (.cells #[.slice a n c, .bool false] 66 (0, 0)) := by rw [hw1, heapA9, if_pos (by simp)]
  have hr1 : RdM w1 (w.heap.size + 1) w.heap.size (x.out, false).1 (x.out, false).2 := by
    refine ⟨a, c, by rw [hn]; exact hq1, ha.below hb1, fun ad e => ?_⟩
    obtain ⟨b, o, h1, h2⟩ := haf ad e
    exact ⟨b, o, h1, by omega, h2⟩
  have hn0 : ∀ W, RdM W (w.heap.size + 1) w.heap.size (x.out, false).1 (x.out, false).2 → Calls Tryd.prog 31 #[.pointer (some ⟨w.heap.size + 1, 0, none⟩), .int .i64 1] W fun e w2 => e = .returned (.int .i64 3) ∧ RdM w2 (w.heap.size + 1) w.heap.size (nB (x.out, false) 1).1 (nB (x.out, false) 1).2 ∧ Only (fun k => k = w.heap.size + 1) W w2 := by
    intro W h
    have h := number_at (w.heap.size + 1) w.heap.size (x.out, false) 1 W h (by decide) (by show x.out.length ≤ 1000000; omega)
    rw [hbk.1] at h
    exact h
  have hsf := snd_one x
  have hml : (nB (x.out, false) 1).1.length ≤ 1000000 := Nat.le_trans (nB_le _ _) (by show x.out.length ≤ 1000000; omega)
  have hrest : ∀ W pp, W.heap[pp]? = some (.cells (Rc.ofKind 3).list.toArray 31 (0, 0)) → RdM W (w.heap.size + 1) w.heap.size (nB (x.out, false) 1).1 (nB (x.out, false) 1).2 → pp ≠ w.heap.size + 1 → w.heap.size ≤ pp → Calls Tryd.prog 32 #[.pointer (some ⟨w.heap.size + 1, 0, none⟩), .pointer (some ⟨pp, 0, none⟩)] W fun e w2 => e = .returned (.slice none 0 0) ∧ w2.heap[pp]? = some (.cells x.list.toArray 31 (0, 0)) ∧ RdM w2 (w.heap.size + 1) w.heap.size [] false ∧ Only (fun k => k = pp ∨ k = w.heap.size + 1) W w2 := fun W pp h1 h2 h3 h4 => by
    have h := rest_k3 pp (w.heap.size + 1) w.heap.size (Rc.ofKind 3) (nB (x.out, false) 1) W z32_len z32_len rfl h1 h2 h3 h4 hml
    rw [hbk.2.1, hbk.2.2] at h
    exact h
  have hck := Lib.hid (fun W h => check0 x hx hc ea W h)
  have hbd := Lib.hid build_kind3
  have s78 : (Rc.ofKind 3).list.toArray.size = 78 := by rw [List.size_toArray, Rc.len (x := Rc.ofKind 3) z32_len z32_len]
  have i8 : (Tryd.prog.info? 31).map (·.size) = some (Rc.ofKind 3).list.toArray.size := by rw [s78]; kernel_rfl
  have z8 : (Tryd.zeroCells31).size = (Rc.ofKind 3).list.toArray.size := by rw [s78]; kernel_rfl
  have hVo := Rc.all_one (Rc.ofKind 3)
  have iX : (Tryd.prog.info? 31).map (·.size) = some x.list.toArray.size := by rw [Rc.size hx]; kernel_rfl
  have zX : (Tryd.zeroCells31).size = x.list.toArray.size := by rw [Rc.size hx]; kernel_rfl
  have hXo := Rc.all_one x
  have hu := Tryd.underlying31
  have hrk0 : ∀ (W : World) b, W.heap[b]? = some (.cells (Rc.ofKind 3).list.toArray 31 (0, 0)) → W.cell? ⟨b, 0, none⟩ = some (.int .i64 3) := fun W b h => by rw [cell_of_block h]; rfl
  generalize (Rc.ofKind 3).list.toArray = RK at *
  have hpost : ∀ W, Below w.heap.size w W → PGood x w (.returned (.tuple #[.agg x.list.toArray, .nilIface])) W := fun W h => ⟨rfl, h⟩
  generalize hX : x.list.toArray = X at *
  generalize nB (x.out, false) 1 = s1 at *
  obtain ⟨q, hq⟩ : ∃ q, q = w.heap.size + 1 := ⟨_, rfl⟩
  obtain ⟨B, hBd⟩ : ∃ B, B = w.heap.size := ⟨_, rfl⟩
  replace hw1 := Lib.hid hw1
  replace hn0 := Lib.hid hn0
  replace hrest := Lib.hid hrest
  replace hr1 := Lib.hid hr1
  replace hz1 := Lib.hid hz1
  replace hb1 := Lib.hid hb1
  replace H := Lib.hid H
  replace hpost := Lib.hid hpost
  replace hrk0 := Lib.hid hrk0
  clear hbk hn hm haf ha hq1 hml hX hc hk hx
  go_enter Tryd.func14, Tryd.ntmps14
  go_wp2_with fail
  rw [← hw1.out]
  with_reducible refine (hn0.out _ hr1.out).mono ?_
  rintro e wa ⟨rfl, hra, hoa⟩
  have hza := Lib.hid (hoa.heap hz1.out (by omega))
  have hsa := hoa.size
  have hOa : Only (fun k => k = w.heap.size + 1) w1 wa := hoa
  have hna : w.heap.size + 1 < wa.heap.size := by omega
  have hZp := Lib.hid (heap_alloc_new wa (.cells Tryd.zeroCells31 31))
  have hba : Below w.heap.size w wa := hb1.out.trans (hoa.below (by omega) (fun k e => by omega))
  replace hra := Lib.hid hra
  replace hba := Lib.hid hba
  clear hoa hOa
  go_wp2_with (first
    | ((with_reducible show wpList _ _ _ (Oper.mk _ (Op.build 31 _) _ _ _ _ :: _) _ _); refine wpList_buildV rfl 31 [(0, .tmp 14)] rfl [(0, .int .i64 3)] rfl _ (hbd.out _) ?_)
    | ((with_reducible show wpList _ _ _ (Oper.mk _ (Op.store 31 (.tmp 5) _) _ _ _ _ :: _) _ _); (refine wpList_store_row rfl 31 (.tmp 5) (.tmp 15) rfl wa.heap.size _ RK rfl rfl hZp i8 z8 hVo ?_); intro w3 hU3; have hP3 := Lib.hid hU3.out.here; have hb3 := Lib.hid ((Below.alloc (Below.refl wa.heap.size wa) (Nat.le_refl _) (.cells Tryd.zeroCells31 31)).trans (hU3.out.below (Nat.le_refl _))); have hr3 := Lib.hid (hra.out.only (D := fun _ => False) (Only.ofBelow hb3.out) (fun e => e) (fun k e => e.elim)); have hz3 := Lib.hid ((hb3.out.block _ (block_lt hza.out)).trans hza.out); have k0 := hrk0.out _ _ hP3.out; obtain ⟨a3, c3, hq3, _⟩ := hr3.out; rw [hsf] at hq3; have j1 := cell_of_block hq3 1; have hbw3 := Lib.hid (hba.out.trans (hb3.out.mono hba.out.size)); clear hq3))
  with_reducible refine (within_any 3 1 4 _).mono ?_
  rintro e w4 ⟨rfl, rfl⟩
  have hi4 : inB 3 1 4 = true := by decide
  go_wp2_with fail
  with_reducible refine (hrest.out _ _ hP3.out hr3.out (by omega) (by omega)).mono ?_
  rintro e w5 ⟨rfl, hP5, hr5, ho5⟩
  have hz5 := Lib.hid (ho5.heap hz3.out (by omega))
  have hbw5 := Lib.hid (hbw3.out.trans (ho5.below hbw3.out.size (fun k e => by omega)))
  obtain ⟨a5, c5, hq5, _⟩ := hr5
  clear j1 k0
  have j1 := cell_of_block hq5 1
  have j0 := cell_of_block hq5 0
  clear hq5 ho5
  replace hP5 := Lib.hid hP5
  have hH5 := Lib.hid (H.out.below hbw5.out)
  go_wp2_with (with_reducible refine wpList_load_row rfl 31 (.tmp 5) rfl wa.heap.size X _ rfl hP5 hu rfl iX ?_)
  with_reducible refine (hck.out _ hH5.out).mono ?_
  rintro e w6 ⟨rfl, hb6⟩
  have hP6 := Lib.hid ((hb6.block _ (block_lt hP5.out)).trans hP5.out)
  have hz6 := Lib.hid ((hb6.block _ (block_lt hz5.out)).trans hz5.out)
  have hbw6 := Lib.hid (hbw5.out.trans (hb6.mono hbw5.out.size))
  clear hb6 j0 j1
  go_wp2_with (first
    | (with_reducible refine wpList_load_row rfl 31 (.tmp 5) rfl wa.heap.size X _ rfl hP6 hu rfl iX ?_)
    | ((with_reducible show wpList _ _ _ (Oper.mk _ (Op.store 31 (.tmp 2) _) _ _ _ _ :: _) _ _); (refine wpList_store_row rfl 31 (.tmp 2) (.tmp 68) rfl w.heap.size _ X rfl rfl hz6 iX zX hXo ?_); intro w10 hU10))
  exact ret_cell_tmpB rfl rfl hu rfl iX hU10.out.here (hpost.out _ (hbw6.out.trans (hU10.out.below (Nat.le_refl _))))

set_option maxRecDepth 100000 in
set_option maxHeartbeats 2000000 in
theorem parse_good2 (x : Rc) (hx : x.Ok) (hk : x.kind = 2) (hc : x.chk = 0) (a : Option Addr) (c : Nat) (n : Nat) (w : World) (ha : ArgB w a c x.out) (hn : x.out.length = n) (hm : n ≤ 1000) (haf : ∀ ad, a = some ad → ∃ b o, ad = ⟨b, o, none⟩ ∧ b < w.heap.size) (ea : Nat → Addr) (H : Errs 132 errGs w ea) :
    Calls Tryd.prog 14 #[.slice a n c] w (PGood x w) := by
  have hbk := back2 x hk hc
  obtain ⟨w1, hw1⟩ : ∃ w1, w1 = (w.alloc (.cells Tryd.zeroCells31 31)).alloc (.cells #[.slice a n c, .bool false] 66) := ⟨_, rfl⟩
  have hb1 : Below w.heap.size w w1 := by rw [hw1]; exact ((Below.refl _ _).alloc (Nat.le_refl _) _).alloc (by simp) _
  have hs1 : w1.heap.size = w.heap.size + 2 := by rw [hw1]; simp
  have hz1 : w1.heap[w.heap.size]? = some (.cells Tryd.zeroCells31 31 (0, 0)) := by rw [hw1, heapA9, if_neg (by simp), heapA9, if_pos rfl]
  have hq1 : w1.heap[w.heap.size + 1]? = some (.cells #[.slice a n c, .bool false] 66 (0, 0)) := by rw [hw1, heapA9, if_pos (by simp)]
  have hr1 : RdM w1 (w.heap.size + 1) w.heap.size (x.out, false).1 (x.out, false).2 := by
    refine ⟨a, c, by rw [hn]; exact hq1, ha.below hb1, fun ad e => ?_⟩
    obtain ⟨b, o, h1, h2⟩ := haf ad e
    exact ⟨b, o, h1, by omega, h2⟩
  have hn0 : ∀ W, RdM W (w.heap.size + 1) w.heap.size (x.out, false).1 (x.out, false).2 → Calls Tryd.prog 31 #[.pointer (some ⟨w.heap.size + 1, 0, none⟩), .int .i64 1] W fun e w2 => e = .returned (.int .i64 2) ∧ RdM w2 (w.heap.size + 1) w.heap.size (nB (x.out, false) 1).1 (nB (x.out, false) 1).2 ∧ Only (fun k => k = w.heap.size + 1) W w2 := by
    intro W h
    have h := number_at (w.heap.size + 1) w.heap.size (x.out, false) 1 W h (by decide) (by show x.out.length ≤ 1000000; omega)
    rw [hbk.1] at h
    exact h
  have hsf := snd_one x
  have hml : (nB (x.out, false) 1).1.length ≤ 1000000 := Nat.le_trans (nB_le _ _) (by show x.out.length ≤ 1000000; omega)
  have hrest : ∀ W pp, W.heap[pp]? = some (.cells (Rc.ofKind 2).list.toArray 31 (0, 0)) → RdM W (w.heap.size + 1) w.heap.size (nB (x.out, false) 1).1 (nB (x.out, false) 1).2 → pp ≠ w.heap.size + 1 → w.heap.size ≤ pp → Calls Tryd.prog 32 #[.pointer (some ⟨w.heap.size + 1, 0, none⟩), .pointer (some ⟨pp, 0, none⟩)] W fun e w2 => e = .returned (.slice none 0 0) ∧ w2.heap[pp]? = some (.cells x.list.toArray 31 (0, 0)) ∧ RdM w2 (w.heap.size + 1) w.heap.size [] false ∧ Only (fun k => k = pp ∨ k = w.heap.size + 1) W w2 := fun W pp h1 h2 h3 h4 => by
    have h := rest_k2 pp (w.heap.size + 1) w.heap.size (Rc.ofKind 2) (nB (x.out, false) 1) W z32_len z32_len rfl h1 h2 h3 h4 hml
    rw [hbk.2.1, hbk.2.2] at h
    exact h
  have hck := Lib.hid (fun W h => check0 x hx hc ea W h)
  have hbd := Lib.hid build_kind2
  have s78 : (Rc.ofKind 2).list.toArray.size = 78 := by rw [List.size_toArray, Rc.len (x := Rc.ofKind 2) z32_len z32_len]
  have i8 : (Tryd.prog.info? 31).map (·.size) = some (Rc.ofKind 2).list.toArray.size := by rw [s78]; kernel_rfl
  have z8 : (Tryd.zeroCells31).size = (Rc.ofKind 2).list.toArray.size := by rw [s78]; kernel_rfl
  have hVo := Rc.all_one (Rc.ofKind 2)
  have iX : (Tryd.prog.info? 31).map (·.size) = some x.list.toArray.size := by rw [Rc.size hx]; kernel_rfl
  have zX : (Tryd.zeroCells31).size = x.list.toArray.size := by rw [Rc.size hx]; kernel_rfl
  have hXo := Rc.all_one x
  have hu := Tryd.underlying31
  have hrk0 : ∀ (W : World) b, W.heap[b]? = some (.cells (Rc.ofKind 2).list.toArray 31 (0, 0)) → W.cell? ⟨b, 0, none⟩ = some (.int .i64 2) := fun W b h => by rw [cell_of_block h]; rfl
  generalize (Rc.ofKind 2).list.toArray = RK at *
  have hpost : ∀ W, Below w.heap.size w W → PGood x w (.returned (.tuple #[.agg x.list.toArray, .nilIface])) W := fun W h => ⟨rfl, h⟩
  generalize hX : x.list.toArray = X at *
  generalize nB (x.out, false) 1 = s1 at *
  obtain ⟨q, hq⟩ : ∃ q, q = w.heap.size + 1 := ⟨_, rfl⟩
  obtain ⟨B, hBd⟩ : ∃ B, B = w.heap.size := ⟨_, rfl⟩
  replace hw1 := Lib.hid hw1
  replace hn0 := Lib.hid hn0
  replace hrest := Lib.hid hrest
  replace hr1 := Lib.hid hr1
  replace hz1 := Lib.hid hz1
  replace hb1 := Lib.hid hb1
  replace H := Lib.hid H
  replace hpost := Lib.hid hpost
  replace hrk0 := Lib.hid hrk0
  clear hbk hn hm haf ha hq1 hml hX hc hk hx
  go_enter Tryd.func14, Tryd.ntmps14
  go_wp2_with fail
  rw [← hw1.out]
  with_reducible refine (hn0.out _ hr1.out).mono ?_
  rintro e wa ⟨rfl, hra, hoa⟩
  have hza := Lib.hid (hoa.heap hz1.out (by omega))
  have hsa := hoa.size
  have hOa : Only (fun k => k = w.heap.size + 1) w1 wa := hoa
  have hna : w.heap.size + 1 < wa.heap.size := by omega
  have hZp := Lib.hid (heap_alloc_new wa (.cells Tryd.zeroCells31 31))
  have hba : Below w.heap.size w wa := hb1.out.trans (hoa.below (by omega) (fun k e => by omega))
  replace hra := Lib.hid hra
  replace hba := Lib.hid hba
  clear hoa hOa
  go_wp2_with (first
    | ((with_reducible show wpList _ _ _ (Oper.mk _ (Op.build 31 _) _ _ _ _ :: _) _ _); refine wpList_buildV rfl 31 [(0, .tmp 14)] rfl [(0, .int .i64 2)] rfl _ (hbd.out _) ?_)
    | ((with_reducible show wpList _ _ _ (Oper.mk _ (Op.store 31 (.tmp 5) _) _ _ _ _ :: _) _ _); (refine wpList_store_row rfl 31 (.tmp 5) (.tmp 15) rfl wa.heap.size _ RK rfl rfl hZp i8 z8 hVo ?_); intro w3 hU3; have hP3 := Lib.hid hU3.out.here; have hb3 := Lib.hid ((Below.alloc (Below.refl wa.heap.size wa) (Nat.le_refl _) (.cells Tryd.zeroCells31 31)).trans (hU3.out.below (Nat.le_refl _))); have hr3 := Lib.hid (hra.out.only (D := fun _ => False) (Only.ofBelow hb3.out) (fun e => e) (fun k e => e.elim)); have hz3 := Lib.hid ((hb3.out.block _ (block_lt hza.out)).trans hza.out); have k0 := hrk0.out _ _ hP3.out; obtain ⟨a3, c3, hq3, _⟩ := hr3.out; rw [hsf] at hq3; have j1 := cell_of_block hq3 1; have hbw3 := Lib.hid (hba.out.trans (hb3.out.mono hba.out.size)); clear hq3))
  with_reducible refine (within_any 2 1 4 _).mono ?_
  rintro e w4 ⟨rfl, rfl⟩
  have hi4 : inB 2 1 4 = true := by decide
  go_wp2_with fail
  with_reducible refine (hrest.out _ _ hP3.out hr3.out (by omega) (by omega)).mono ?_
  rintro e w5 ⟨rfl, hP5, hr5, ho5⟩
  have hz5 := Lib.hid (ho5.heap hz3.out (by omega))
  have hbw5 := Lib.hid (hbw3.out.trans (ho5.below hbw3.out.size (fun k e => by omega)))
  obtain ⟨a5, c5, hq5, _⟩ := hr5
  clear j1 k0
  have j1 := cell_of_block hq5 1
  have j0 := cell_of_block hq5 0
  clear hq5 ho5
  replace hP5 := Lib.hid hP5
  have hH5 := Lib.hid (H.out.below hbw5.out)
  go_wp2_with (with_reducible refine wpList_load_row rfl 31 (.tmp 5) rfl wa.heap.size X _ rfl hP5 hu rfl iX ?_)
  with_reducible refine (hck.out _ hH5.out).mono ?_
  rintro e w6 ⟨rfl, hb6⟩
  have hP6 := Lib.hid ((hb6.block _ (block_lt hP5.out)).trans hP5.out)
  have hz6 := Lib.hid ((hb6.block _ (block_lt hz5.out)).trans hz5.out)
  have hbw6 := Lib.hid (hbw5.out.trans (hb6.mono hbw5.out.size))
  clear hb6 j0 j1
  go_wp2_with (first
    | (with_reducible refine wpList_load_row rfl 31 (.tmp 5) rfl wa.heap.size X _ rfl hP6 hu rfl iX ?_)
    | ((with_reducible show wpList _ _ _ (Oper.mk _ (Op.store 31 (.tmp 2) _) _ _ _ _ :: _) _ _); (refine wpList_store_row rfl 31 (.tmp 2) (.tmp 68) rfl w.heap.size _ X rfl rfl hz6 iX zX hXo ?_); intro w10 hU10))
  exact ret_cell_tmpB rfl rfl hu rfl iX hU10.out.here (hpost.out _ (hbw6.out.trans (hU10.out.below (Nat.le_refl _))))

end Go.Proofs.YtahnicbokdbjdaaDoor
