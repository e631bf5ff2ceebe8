/- Walks over the reference's wire. (Printed by n24/on/genref.py.) -/
import Derived.Test.YtejkajlbffkdnaaDoorRefWL
import Derived.Test.YtejkajlbffkdnaaDoorWire2
import Derived.StillTailTactics
namespace Go.Proofs.YtejkajlbffkdnaaDoor
open Go.RowKit

set_option maxHeartbeats 400000 in
theorem rway_bad (n : Int) (h0 : n ≠ 0) (h1 : n ≠ 1) (w : World) : Calls Tryd.prog 33 #[.int .i64 n] w fun e w' => e = .returned (.int .i64 7) ∧ w = w' := by
  have k0 : (n != 0) = true := by simp [h0]
  have k1 : (n != 1) = true := by simp [h1]
  go_enter Tryd.func33, Tryd.ntmps33
  go_wp2_with fail
  go_ret
  exact ⟨rfl, rfl⟩
set_option maxHeartbeats 400000 in
theorem rthere_bad (M : Nat) (n i : Int) (h0 : n ≠ 0) (h1 : n ≠ 1) (w : World) : Calls Tryd.prog 34 #[.pointer (some ⟨M, 0, none⟩), .int .i64 n, .int .i64 i] w fun e w' => e = .returned (.int .i64 7) ∧ w = w' := by
  go_enter Tryd.func34, Tryd.ntmps34
  go_wp2_with ((go_at_call 33; ((with_reducible refine (rway_bad n h0 h1 _).mono ?_); rintro e w' ⟨rfl, rfl⟩)))
  go_ret
  exact ⟨rfl, rfl⟩
set_option maxHeartbeats 400000 in
theorem rsend_bad (M : Nat) (n : Int) (a : Option Addr) (l c : Nat) (h0 : n ≠ 0) (h1 : n ≠ 1) (w : World) : Calls Tryd.prog 24 #[.pointer (some ⟨M, 0, none⟩), .int .i64 n, .slice a l c] w fun e w' => e = .returned (.int .i64 7) ∧ w = w' := by
  go_enter Tryd.func24, Tryd.ntmps24
  go_wp2_with ((go_at_call 33; ((with_reducible refine (rway_bad n h0 h1 _).mono ?_); rintro e w' ⟨rfl, rfl⟩)))
  go_ret
  exact ⟨rfl, rfl⟩

set_option maxHeartbeats 400000 in
theorem rtake_bad (M : Nat) (n i : Int) (h0 : n ≠ 0) (h1 : n ≠ 1) (w : World) : Calls Tryd.prog 26 #[.pointer (some ⟨M, 0, none⟩), .int .i64 n, .int .i64 i] w fun e w' => e = .returned (.tuple #[.slice none 0 0, .int .i64 7]) ∧ w = w' := by
  go_enter Tryd.func26, Tryd.ntmps26
  go_wp2_with ((go_at_call 34; ((with_reducible refine (rthere_bad M n i h0 h1 _).mono ?_); rintro e w' ⟨rfl, rfl⟩)))
  go_ret2
  exact ⟨rfl, rfl⟩

set_option maxHeartbeats 400000 in
theorem rdrop_bad (M : Nat) (n i : Int) (h0 : n ≠ 0) (h1 : n ≠ 1) (w : World) : Calls Tryd.prog 27 #[.pointer (some ⟨M, 0, none⟩), .int .i64 n, .int .i64 i] w fun e w' => e = .returned (.int .i64 7) ∧ w = w' := by
  go_enter Tryd.func27, Tryd.ntmps27
  go_wp2_with ((go_at_call 34; ((with_reducible refine (rthere_bad M n i h0 h1 _).mono ?_); rintro e w' ⟨rfl, rfl⟩)))
  go_ret
  exact ⟨rfl, rfl⟩

set_option maxHeartbeats 400000 in
theorem rdouble_bad (M : Nat) (n i : Int) (h0 : n ≠ 0) (h1 : n ≠ 1) (w : World) : Calls Tryd.prog 28 #[.pointer (some ⟨M, 0, none⟩), .int .i64 n, .int .i64 i] w fun e w' => e = .returned (.int .i64 7) ∧ w = w' := by
  go_enter Tryd.func28, Tryd.ntmps28
  go_wp2_with ((go_at_call 34; ((with_reducible refine (rthere_bad M n i h0 h1 _).mono ?_); rintro e w' ⟨rfl, rfl⟩)))
  go_ret
  exact ⟨rfl, rfl⟩

set_option maxHeartbeats 400000 in
theorem rbend_bad (M : Nat) (n i : Int) (at_ : Int) (by_ : UInt8) (h0 : n ≠ 0) (h1 : n ≠ 1) (w : World) : Calls Tryd.prog 29 #[.pointer (some ⟨M, 0, none⟩), .int .i64 n, .int .i64 i, .int .i64 at_, .int .u8 (by_.toNat : Int)] w fun e w' => e = .returned (.int .i64 7) ∧ w = w' := by
  go_enter Tryd.func29, Tryd.ntmps29
  go_wp2_with ((go_at_call 34; ((with_reducible refine (rthere_bad M n i h0 h1 _).mono ?_); rintro e w' ⟨rfl, rfl⟩)))
  go_ret
  exact ⟨rfl, rfl⟩

set_option maxHeartbeats 400000 in
theorem rway0 (w : World) : Calls Tryd.prog 33 #[.int .i64 0] w fun e w' => e = .returned (.int .i64 0) ∧ w = w' := by
  go_enter Tryd.func33, Tryd.ntmps33
  go_wp2_with fail
  go_ret
  exact ⟨rfl, rfl⟩
set_option maxHeartbeats 400000 in
theorem rthere_no0 (M : Nat) (i : Int) (a : Option Addr) (m c : Nat) (w : World) (h : w.cell? ⟨M, 0, none⟩ = some (.slice a m c)) (hi : i < 0 ∨ (m : Int) ≤ i) :
    Calls Tryd.prog 34 #[.pointer (some ⟨M, 0, none⟩), .int .i64 0, .int .i64 i] w fun e w' => e = .returned (.int .i64 11) ∧ w = w' := by
  by_cases hn : i < 0
  · go_enter Tryd.func34, Tryd.ntmps34
    go_wp2_with ((go_at_call 33; ((with_reducible refine (rway0 _).mono ?_); rintro e w' ⟨rfl, rfl⟩)))
    go_ret
    exact ⟨rfl, rfl⟩
  · have hm : (m : Int) ≤ i := by omega
    clear hi
    go_enter Tryd.func34, Tryd.ntmps34
    go_wp2_with ((go_at_call 33; ((with_reducible refine (rway0 _).mono ?_); rintro e w' ⟨rfl, rfl⟩)))
    go_ret
    exact ⟨rfl, rfl⟩
set_option maxHeartbeats 400000 in
theorem rthere_yes0 (M i : Nat) (a : Option Addr) (m c : Nat) (w : World) (h : w.cell? ⟨M, 0, none⟩ = some (.slice a m c)) (hi : i < m) :
    Calls Tryd.prog 34 #[.pointer (some ⟨M, 0, none⟩), .int .i64 0, .int .i64 i] w fun e w' => e = .returned (.int .i64 0) ∧ w = w' := by
  have hi2 : ¬ ((i : Int) < 0) := by omega
  have hi3 : ¬ ((m : Int) ≤ (i : Int)) := by omega
  go_enter Tryd.func34, Tryd.ntmps34
  go_wp2_with ((go_at_call 33; ((with_reducible refine (rway0 _).mono ?_); rintro e w' ⟨rfl, rfl⟩)))
  go_ret
  exact ⟨rfl, rfl⟩
set_option maxHeartbeats 400000 in
theorem rsend_size0 (M : Nat) (a : Option Addr) (c : Nat) (w : World) : Calls Tryd.prog 24 #[.pointer (some ⟨M, 0, none⟩), .int .i64 0, .slice a 0 c] w fun e w' => e = .returned (.int .i64 8) ∧ w = w' := by
  go_enter Tryd.func24, Tryd.ntmps24
  go_wp2_with ((go_at_call 33; ((with_reducible refine (rway0 _).mono ?_); rintro e w' ⟨rfl, rfl⟩)))
  go_ret
  exact ⟨rfl, rfl⟩
set_option maxHeartbeats 400000 in
theorem rsend_long0 (M : Nat) (a : Option Addr) (l c : Nat) (hl : 8000 < l) (w : World) : Calls Tryd.prog 24 #[.pointer (some ⟨M, 0, none⟩), .int .i64 0, .slice a l c] w fun e w' => e = .returned (.int .i64 3) ∧ w = w' := by
  have h1 : ¬ ((l : Int) = 0) := by omega
  have h2 : (8000 : Int) < (l : Int) := by omega
  clear hl
  go_enter Tryd.func24, Tryd.ntmps24
  go_wp2_with ((go_at_call 33; ((with_reducible refine (rway0 _).mono ?_); rintro e w' ⟨rfl, rfl⟩)))
  go_ret
  exact ⟨rfl, rfl⟩
set_option maxRecDepth 100000 in
set_option maxHeartbeats 1000000 in
theorem rsend_full0 (base M : Nat) (T : TypeId) (y z : Way) (w : World) (h : RefW base w M T y z) (hb : base ≤ w.heap.size) (hs : Small y) (hl : 64 ≤ y.ms.length) (a : Option Addr) (l c : Nat) (h1 : 0 < l ∧ l ≤ 8000) :
    Calls Tryd.prog 24 #[.pointer (some ⟨M, 0, none⟩), .int .i64 0, .slice a l c] w fun x w' => x = .returned (.int .i64 12) ∧ ∃ x', RStep base w w' M T y z x' z ∧ x'.i = y.i + 1 ∧ x'.o = y.o ∧ x'.l = y.l + 1 ∧ x'.ms = y.ms := by
  have hok := h.ok0
  have hn := h.n0
  obtain ⟨ga, cap, hv, hcap, hcap2, hnil, hsrc⟩ := hok.form
  have hat := h.at_
  have hcv : w.cell? ⟨M, 0, none⟩ = some (.slice ga y.ms.length cap) := by rw [h.c]; simp [rcells, hv]
  have hci : w.cell? ⟨M, 2, none⟩ = some (.int .i64 y.i) := h.c 2
  have hcl : w.cell? ⟨M, 4, none⟩ = some (.int .i64 y.l) := h.c 4
  have hfi := h.f 2
  have hfl := h.f 4
  have hwi : IntKind.i64.wrap (y.i + 1) = y.i + 1 := IntWalk.i64_in _ (by have := hs.i; omega)
  have hwl : IntKind.i64.wrap (y.l + 1) = y.l + 1 := IntWalk.i64_in _ (by have := hs.l; omega)
  have hlen1 : ¬ ((l : Int) = 0) := by omega
  have hlen2 : (l : Int) ≤ 8000 := by omega
  have hln : 64 ≤ (y.ms.length : Int) := by omega
  replace h := Lib.hid h
  replace hat := Lib.hid hat
  replace hv := Lib.hid hv
  replace hok := Lib.hid hok
  replace hn := Lib.hid hn
  clear hcap hcap2 h1 hl hs hnil hsrc
  go_enter Tryd.func24, Tryd.ntmps24
  go_wp2_with ((go_at_call 33; ((with_reducible refine (rway0 _).mono ?_); rintro e w' ⟨rfl, rfl⟩)))
  go_still_tail 12, (by kernel_rfl)
  change wpList _ _ _ _ _ w.drew
  go_wp2_with fail
  generalize hw0 : (w.setCell ⟨M, 2, none⟩ (.int .i64 (y.i + 1))).drew = w0
  have hU0 := ((Upd.refl hat.out).setCell (j := 2) (.int .i64 (y.i + 1))).drew
  rw [hw0] at hU0
  have hcl0 : w0.cell? ⟨M, 4, none⟩ = some (.int .i64 y.l) := by rw [cell_of_block hU0.here]; rfl
  have hfl0 : w0.frozen? ⟨M, 4, none⟩ = false := free_of_block hU0.here _
  replace hw0 := Lib.hid hw0
  replace hU0 := Lib.hid hU0
  go_still_tail 12, (by kernel_rfl)
  change wpList _ _ _ _ _ w0.drew
  go_wp2_with fail
  go_ret
  have hU1 := ((Upd.refl hU0.out.here).setCell (j := 4) (.int .i64 (y.l + 1))).drew
  have hO := Only.ofUpd (D := fun k => k = M) (hU0.out.trans hU1) rfl
  exact ⟨rfl, _, RStep.of0 h.out hO (rnums_ok hok.out hn.out hO (y.i + 1) y.o (y.l + 1)) (hU1.to rfl).here, rfl, rfl, rfl, rfl⟩

set_option maxHeartbeats 400000 in
theorem rtake_no0 (M : Nat) (i : Int) (a : Option Addr) (m c : Nat) (w : World) (h : w.cell? ⟨M, 0, none⟩ = some (.slice a m c)) (hi : i < 0 ∨ (m : Int) ≤ i) : Calls Tryd.prog 26 #[.pointer (some ⟨M, 0, none⟩), .int .i64 0, .int .i64 i] w fun e w' => e = .returned (.tuple #[.slice none 0 0, .int .i64 11]) ∧ w = w' := by
  have ht := Lib.hid (rthere_no0 M i a m c w h hi)
  clear hi
  go_enter Tryd.func26, Tryd.ntmps26
  go_wp2_with fail
  with_reducible refine ht.out.mono ?_
  rintro x w2 ⟨rfl, rfl⟩
  go_wp2_with fail
  go_ret2
  exact ⟨rfl, rfl⟩

set_option maxHeartbeats 400000 in
theorem rdrop_no0 (M : Nat) (i : Int) (a : Option Addr) (m c : Nat) (w : World) (h : w.cell? ⟨M, 0, none⟩ = some (.slice a m c)) (hi : i < 0 ∨ (m : Int) ≤ i) : Calls Tryd.prog 27 #[.pointer (some ⟨M, 0, none⟩), .int .i64 0, .int .i64 i] w fun e w' => e = .returned (.int .i64 11) ∧ w = w' := by
  have ht := Lib.hid (rthere_no0 M i a m c w h hi)
  clear hi
  go_enter Tryd.func27, Tryd.ntmps27
  go_wp2_with fail
  with_reducible refine ht.out.mono ?_
  rintro x w2 ⟨rfl, rfl⟩
  go_wp2_with fail
  go_ret
  exact ⟨rfl, rfl⟩

set_option maxHeartbeats 400000 in
theorem rdouble_no0 (M : Nat) (i : Int) (a : Option Addr) (m c : Nat) (w : World) (h : w.cell? ⟨M, 0, none⟩ = some (.slice a m c)) (hi : i < 0 ∨ (m : Int) ≤ i) : Calls Tryd.prog 28 #[.pointer (some ⟨M, 0, none⟩), .int .i64 0, .int .i64 i] w fun e w' => e = .returned (.int .i64 11) ∧ w = w' := by
  have ht := Lib.hid (rthere_no0 M i a m c w h hi)
  clear hi
  go_enter Tryd.func28, Tryd.ntmps28
  go_wp2_with fail
  with_reducible refine ht.out.mono ?_
  rintro x w2 ⟨rfl, rfl⟩
  go_wp2_with fail
  go_ret
  exact ⟨rfl, rfl⟩

set_option maxHeartbeats 400000 in
theorem rbend_no0 (M : Nat) (i : Int) (at_ : Int) (by_ : UInt8) (a : Option Addr) (m c : Nat) (w : World) (h : w.cell? ⟨M, 0, none⟩ = some (.slice a m c)) (hi : i < 0 ∨ (m : Int) ≤ i) : Calls Tryd.prog 29 #[.pointer (some ⟨M, 0, none⟩), .int .i64 0, .int .i64 i, .int .i64 at_, .int .u8 (by_.toNat : Int)] w fun e w' => e = .returned (.int .i64 11) ∧ w = w' := by
  have ht := Lib.hid (rthere_no0 M i a m c w h hi)
  clear hi
  go_enter Tryd.func29, Tryd.ntmps29
  go_wp2_with fail
  with_reducible refine ht.out.mono ?_
  rintro x w2 ⟨rfl, rfl⟩
  go_wp2_with fail
  go_ret
  exact ⟨rfl, rfl⟩

set_option maxHeartbeats 400000 in
theorem rway1 (w : World) : Calls Tryd.prog 33 #[.int .i64 1] w fun e w' => e = .returned (.int .i64 0) ∧ w = w' := by
  go_enter Tryd.func33, Tryd.ntmps33
  go_wp2_with fail
  go_ret
  exact ⟨rfl, rfl⟩
set_option maxHeartbeats 400000 in
theorem rthere_no1 (M : Nat) (i : Int) (a : Option Addr) (m c : Nat) (w : World) (h : w.cell? ⟨M, 1, none⟩ = some (.slice a m c)) (hi : i < 0 ∨ (m : Int) ≤ i) :
    Calls Tryd.prog 34 #[.pointer (some ⟨M, 0, none⟩), .int .i64 1, .int .i64 i] w fun e w' => e = .returned (.int .i64 11) ∧ w = w' := by
  by_cases hn : i < 0
  · go_enter Tryd.func34, Tryd.ntmps34
    go_wp2_with ((go_at_call 33; ((with_reducible refine (rway1 _).mono ?_); rintro e w' ⟨rfl, rfl⟩)))
    go_ret
    exact ⟨rfl, rfl⟩
  · have hm : (m : Int) ≤ i := by omega
    clear hi
    go_enter Tryd.func34, Tryd.ntmps34
    go_wp2_with ((go_at_call 33; ((with_reducible refine (rway1 _).mono ?_); rintro e w' ⟨rfl, rfl⟩)))
    go_ret
    exact ⟨rfl, rfl⟩
set_option maxHeartbeats 400000 in
theorem rthere_yes1 (M i : Nat) (a : Option Addr) (m c : Nat) (w : World) (h : w.cell? ⟨M, 1, none⟩ = some (.slice a m c)) (hi : i < m) :
    Calls Tryd.prog 34 #[.pointer (some ⟨M, 0, none⟩), .int .i64 1, .int .i64 i] w fun e w' => e = .returned (.int .i64 0) ∧ w = w' := by
  have hi2 : ¬ ((i : Int) < 0) := by omega
  have hi3 : ¬ ((m : Int) ≤ (i : Int)) := by omega
  go_enter Tryd.func34, Tryd.ntmps34
  go_wp2_with ((go_at_call 33; ((with_reducible refine (rway1 _).mono ?_); rintro e w' ⟨rfl, rfl⟩)))
  go_ret
  exact ⟨rfl, rfl⟩
set_option maxHeartbeats 400000 in
theorem rsend_size1 (M : Nat) (a : Option Addr) (c : Nat) (w : World) : Calls Tryd.prog 24 #[.pointer (some ⟨M, 0, none⟩), .int .i64 1, .slice a 0 c] w fun e w' => e = .returned (.int .i64 8) ∧ w = w' := by
  go_enter Tryd.func24, Tryd.ntmps24
  go_wp2_with ((go_at_call 33; ((with_reducible refine (rway1 _).mono ?_); rintro e w' ⟨rfl, rfl⟩)))
  go_ret
  exact ⟨rfl, rfl⟩
set_option maxHeartbeats 400000 in
theorem rsend_long1 (M : Nat) (a : Option Addr) (l c : Nat) (hl : 8000 < l) (w : World) : Calls Tryd.prog 24 #[.pointer (some ⟨M, 0, none⟩), .int .i64 1, .slice a l c] w fun e w' => e = .returned (.int .i64 3) ∧ w = w' := by
  have h1 : ¬ ((l : Int) = 0) := by omega
  have h2 : (8000 : Int) < (l : Int) := by omega
  clear hl
  go_enter Tryd.func24, Tryd.ntmps24
  go_wp2_with ((go_at_call 33; ((with_reducible refine (rway1 _).mono ?_); rintro e w' ⟨rfl, rfl⟩)))
  go_ret
  exact ⟨rfl, rfl⟩
set_option maxRecDepth 100000 in
set_option maxHeartbeats 1000000 in
theorem rsend_full1 (base M : Nat) (T : TypeId) (y z : Way) (w : World) (h : RefW base w M T y z) (hb : base ≤ w.heap.size) (hs : Small z) (hl : 64 ≤ z.ms.length) (a : Option Addr) (l c : Nat) (h1 : 0 < l ∧ l ≤ 8000) :
    Calls Tryd.prog 24 #[.pointer (some ⟨M, 0, none⟩), .int .i64 1, .slice a l c] w fun x w' => x = .returned (.int .i64 12) ∧ ∃ x', RStep base w w' M T y z y x' ∧ x'.i = z.i + 1 ∧ x'.o = z.o ∧ x'.l = z.l + 1 ∧ x'.ms = z.ms := by
  have hok := h.ok1
  have hn := h.n1
  obtain ⟨ga, cap, hv, hcap, hcap2, hnil, hsrc⟩ := hok.form
  have hat := h.at_
  have hcv : w.cell? ⟨M, 1, none⟩ = some (.slice ga z.ms.length cap) := by rw [h.c]; simp [rcells, hv]
  have hci : w.cell? ⟨M, 5, none⟩ = some (.int .i64 z.i) := h.c 5
  have hcl : w.cell? ⟨M, 7, none⟩ = some (.int .i64 z.l) := h.c 7
  have hfi := h.f 5
  have hfl := h.f 7
  have hwi : IntKind.i64.wrap (z.i + 1) = z.i + 1 := IntWalk.i64_in _ (by have := hs.i; omega)
  have hwl : IntKind.i64.wrap (z.l + 1) = z.l + 1 := IntWalk.i64_in _ (by have := hs.l; omega)
  have hlen1 : ¬ ((l : Int) = 0) := by omega
  have hlen2 : (l : Int) ≤ 8000 := by omega
  have hln : 64 ≤ (z.ms.length : Int) := by omega
  replace h := Lib.hid h
  replace hat := Lib.hid hat
  replace hv := Lib.hid hv
  replace hok := Lib.hid hok
  replace hn := Lib.hid hn
  clear hcap hcap2 h1 hl hs hnil hsrc
  go_enter Tryd.func24, Tryd.ntmps24
  go_wp2_with ((go_at_call 33; ((with_reducible refine (rway1 _).mono ?_); rintro e w' ⟨rfl, rfl⟩)))
  go_still_tail 12, (by kernel_rfl)
  change wpList _ _ _ _ _ w.drew
  go_wp2_with fail
  generalize hw0 : (w.setCell ⟨M, 5, none⟩ (.int .i64 (z.i + 1))).drew = w0
  have hU0 := ((Upd.refl hat.out).setCell (j := 5) (.int .i64 (z.i + 1))).drew
  rw [hw0] at hU0
  have hcl0 : w0.cell? ⟨M, 7, none⟩ = some (.int .i64 z.l) := by rw [cell_of_block hU0.here]; rfl
  have hfl0 : w0.frozen? ⟨M, 7, none⟩ = false := free_of_block hU0.here _
  replace hw0 := Lib.hid hw0
  replace hU0 := Lib.hid hU0
  go_still_tail 12, (by kernel_rfl)
  change wpList _ _ _ _ _ w0.drew
  go_wp2_with fail
  go_ret
  have hU1 := ((Upd.refl hU0.out.here).setCell (j := 7) (.int .i64 (z.l + 1))).drew
  have hO := Only.ofUpd (D := fun k => k = M) (hU0.out.trans hU1) rfl
  exact ⟨rfl, _, RStep.of1 h.out hO (rnums_ok hok.out hn.out hO (z.i + 1) z.o (z.l + 1)) (hU1.to rfl).here, rfl, rfl, rfl, rfl⟩

set_option maxHeartbeats 400000 in
theorem rtake_no1 (M : Nat) (i : Int) (a : Option Addr) (m c : Nat) (w : World) (h : w.cell? ⟨M, 1, none⟩ = some (.slice a m c)) (hi : i < 0 ∨ (m : Int) ≤ i) : Calls Tryd.prog 26 #[.pointer (some ⟨M, 0, none⟩), .int .i64 1, .int .i64 i] w fun e w' => e = .returned (.tuple #[.slice none 0 0, .int .i64 11]) ∧ w = w' := by
  have ht := Lib.hid (rthere_no1 M i a m c w h hi)
  clear hi
  go_enter Tryd.func26, Tryd.ntmps26
  go_wp2_with fail
  with_reducible refine ht.out.mono ?_
  rintro x w2 ⟨rfl, rfl⟩
  go_wp2_with fail
  go_ret2
  exact ⟨rfl, rfl⟩

set_option maxHeartbeats 400000 in
theorem rdrop_no1 (M : Nat) (i : Int) (a : Option Addr) (m c : Nat) (w : World) (h : w.cell? ⟨M, 1, none⟩ = some (.slice a m c)) (hi : i < 0 ∨ (m : Int) ≤ i) : Calls Tryd.prog 27 #[.pointer (some ⟨M, 0, none⟩), .int .i64 1, .int .i64 i] w fun e w' => e = .returned (.int .i64 11) ∧ w = w' := by
  have ht := Lib.hid (rthere_no1 M i a m c w h hi)
  clear hi
  go_enter Tryd.func27, Tryd.ntmps27
  go_wp2_with fail
  with_reducible refine ht.out.mono ?_
  rintro x w2 ⟨rfl, rfl⟩
  go_wp2_with fail
  go_ret
  exact ⟨rfl, rfl⟩

set_option maxHeartbeats 400000 in
theorem rdouble_no1 (M : Nat) (i : Int) (a : Option Addr) (m c : Nat) (w : World) (h : w.cell? ⟨M, 1, none⟩ = some (.slice a m c)) (hi : i < 0 ∨ (m : Int) ≤ i) : Calls Tryd.prog 28 #[.pointer (some ⟨M, 0, none⟩), .int .i64 1, .int .i64 i] w fun e w' => e = .returned (.int .i64 11) ∧ w = w' := by
  have ht := Lib.hid (rthere_no1 M i a m c w h hi)
  clear hi
  go_enter Tryd.func28, Tryd.ntmps28
  go_wp2_with fail
  with_reducible refine ht.out.mono ?_
  rintro x w2 ⟨rfl, rfl⟩
  go_wp2_with fail
  go_ret
  exact ⟨rfl, rfl⟩

set_option maxHeartbeats 400000 in
theorem rbend_no1 (M : Nat) (i : Int) (at_ : Int) (by_ : UInt8) (a : Option Addr) (m c : Nat) (w : World) (h : w.cell? ⟨M, 1, none⟩ = some (.slice a m c)) (hi : i < 0 ∨ (m : Int) ≤ i) : Calls Tryd.prog 29 #[.pointer (some ⟨M, 0, none⟩), .int .i64 1, .int .i64 i, .int .i64 at_, .int .u8 (by_.toNat : Int)] w fun e w' => e = .returned (.int .i64 11) ∧ w = w' := by
  have ht := Lib.hid (rthere_no1 M i a m c w h hi)
  clear hi
  go_enter Tryd.func29, Tryd.ntmps29
  go_wp2_with fail
  with_reducible refine ht.out.mono ?_
  rintro x w2 ⟨rfl, rfl⟩
  go_wp2_with fail
  go_ret
  exact ⟨rfl, rfl⟩

end Go.Proofs.YtejkajlbffkdnaaDoor
