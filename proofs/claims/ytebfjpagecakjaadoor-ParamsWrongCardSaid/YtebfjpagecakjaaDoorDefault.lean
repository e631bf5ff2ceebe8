/- Walks over params.Field, Plain, Stored, Default; baileelaw15.alive, ParamsDefault. -/
import Derived.Test.YtebfjpagecakjaaDoorAs
import Derived.Test.YtebfjpagecakjaaDoorStoreRow
namespace Go.Proofs.YtebfjpagecakjaaDoor
open Go.RowKit


/-- What errors.As asks of the world. -/
abbrev TypeVar (w : World) : Prop := w.cell? ⟨20, 0, none⟩ = some (.iface 94 (.agg #[.pointer (some ⟨24, 27, none⟩)]))
theorem TypeVar.below {w w' : World} (h : TypeVar w) (hb : Below w.heap.size w w') : TypeVar w' := (hb.cell (World.block_lt_of_cell? w _ h)).trans h

theorem below_set_new {w W : World} {g : Nat} {v : Value} (h : Below w.heap.size w W) (hg : w.heap.size ≤ g) : Below w.heap.size w (W.setCell ⟨g, 0, none⟩ v) := h.setCell (p := ⟨g, 0, none⟩) hg v

set_option maxHeartbeats 2000000 in
theorem field_hit (g : Nat) (F : ByteArray) (V : Int) (x : Addr) (w : World) (hT : TypeVar w) (hg : w.heap[g]? = some (.cells #[.string F, .int .i64 V, .iface 123 (.pointer (some x))] 59 (0, 0))) :
    Calls Tryd.prog 18 #[.iface 56 (.pointer (some ⟨g, 0, none⟩))] w fun e w' => e = .returned (.tuple #[.string F, .int .i64 V, .bool true]) ∧ Below w.heap.size w w' := by
  have hlt := (Array.getElem?_eq_some_iff.1 hg).1
  have hb0 := (Below.refl w.heap.size w).alloc (Nat.le_refl _) (.cells #[.pointer none] 56)
  have hT1 := hT.below hb0
  have hcall := Lib.hid (as_hit ⟨g, 0, none⟩ ⟨w.heap.size, 0, none⟩ (.pointer none) (w.alloc (.cells #[.pointer none] 56)) hT1 (by simp) (by simp))
  replace hb0 := Lib.hid hb0
  replace hg := Lib.hid hg
  clear hT hT1
  go_enter Tryd.func18, Tryd.ntmps18
  go_wp2_with fail
  with_reducible refine hcall.out.mono ?_
  rintro e w2 ⟨rfl, hw2⟩
  have hB : Below w.heap.size w w2 := by
    rw [hw2]
    refine below_set_new ((((hb0.out.alloc ?_ _).alloc ?_ _).alloc ?_ _).alloc ?_ _) (Nat.le_refl _)
    all_goals (simp; try omega)
  have c0 : w2.cell? ⟨w.heap.size, 0, none⟩ = some (.pointer (some ⟨g, 0, none⟩)) := by
    rw [hw2]
    have hX := ((((((Below.refl (w.alloc (.cells #[.pointer none] 56)).heap.size (w.alloc (.cells #[.pointer none] 56))).alloc (Nat.le_refl _) (.cells #[.pointer (some ⟨w.heap.size, 0, none⟩)] 73)).alloc (by simp) (.cells #[.pointer (some ⟨24, 73, none⟩), .pointer (some ⟨(w.alloc (.cells #[.pointer none] 56)).heap.size, 0, none⟩), .int .u64 150] 86)).alloc (by simp) (.cells #[.pointer (some ⟨24, 73, none⟩), .pointer (some ⟨(w.alloc (.cells #[.pointer none] 56)).heap.size, 0, none⟩), .int .u64 150] 86)).alloc (by simp) (.cells #[.pointer (some ⟨g, 0, none⟩)] 56)).block w.heap.size (by simp)).trans (heap_alloc_new w (.cells #[.pointer none] 56))
    exact (cell_of_block ((Upd.refl hX).setCell (j := 0) (.pointer (some ⟨g, 0, none⟩))).here 0).trans (by simp)
  have hg2 := (hB.block g hlt).trans hg.out
  obtain ⟨⟨d0, d1, d2⟩, _⟩ := cells3 hg2
  clear hw2 hg2 hcall
  replace hB := Lib.hid hB
  go_wp2_with fail
  go_quiet (fail)
  go_wp2
  go_ret3
  exact ⟨rfl, below_drewN hB.out _⟩

theorem check_lit (s n k d t r : Int) (h : ParOk s n k d t r) (z : Nat → Addr) (w : World) (hE : ParErrs w z) :
    Calls Tryd.prog 9 #[.agg #[.int .i64 s, .int .i64 n, .int .i64 k, .int .i64 d, .int .i64 t, .int .i64 r]] w fun e w' => e = .returned .nilIface ∧ Below w.heap.size w w' := check_ok s n k d t r h z w hE

set_option maxHeartbeats 1000000 in
theorem default_any (n : Int) (w : World) : Calls Tryd.prog 8 #[.int .i64 n] w fun e w' => e = .returned (.agg #[.int .i64 n, .int .i64 4, .int .i64 4, .int .i64 20, .int .i64 4, .int .i64 2]) ∧ Below w.heap.size w w' := by
  have hb0 := Lib.hid (Below.refl w.heap.size w)
  go_enter Tryd.func8, Tryd.ntmps8
  go_wp2_with fail
  refine ret_cell_row rfl rfl Tryd.underlying24 rfl (by kernel_rfl) (heap_alloc_at _ _ _ (by simp)) ?_
  exact ⟨rfl, hb0.out.alloc (Nat.le_refl _) _⟩

set_option maxHeartbeats 1000000 in
theorem plain_ok (s n k d t r : Int) (h : ParOk s n k d t r) (z : Nat → Addr) (w : World) (hE : ParErrs w z) :
    Calls Tryd.prog 20 #[.agg #[.int .i64 s, .int .i64 n, .int .i64 k, .int .i64 d, .int .i64 t, .int .i64 r]] w fun e w' => e = .returned (.tuple #[.int .i64 (totalOf s), .nilIface]) ∧ Below w.heap.size w w' := by
  have hs := h.1
  have hb1 := Lib.hid ((Below.refl w.heap.size w).alloc (Nat.le_refl _) (.cells #[.int .i64 s, .int .i64 n, .int .i64 k, .int .i64 d, .int .i64 t, .int .i64 r] 24))
  have hp := Lib.hid (heap_alloc_new w (.cells #[.int .i64 s, .int .i64 n, .int .i64 k, .int .i64 d, .int .i64 t, .int .i64 r] 24))
  have hcall := Lib.hid (check_lit s n k d t r h z _ (hE.below hb1.out))
  have htot := Lib.hid (fun W => total_some s hs W)
  clear h
  go_enter Tryd.func20, Tryd.ntmps20
  go_wp2_with (refine wpList_load_row rfl 24 (.tmp 1) rfl w.heap.size #[.int .i64 s, .int .i64 n, .int .i64 k, .int .i64 d, .int .i64 t, .int .i64 r] _ rfl hp Tryd.underlying24 rfl (by kernel_rfl) ?_)
  with_reducible refine hcall.out.mono ?_
  rintro e w1 ⟨rfl, hb2⟩
  replace hp := Lib.hid ((hb2.block _ (by simp)).trans hp.out)
  replace hb1 := Lib.hid (hb1.out.trans (hb2.mono hb1.out.size))
  obtain ⟨c0, c1, c2, c3, c4, c5⟩ := box6 hp.out
  clear hb2 hcall
  go_wp2_with fail
  with_reducible refine (htot.out _).mono ?_
  rintro e w2 ⟨rfl, hb2⟩
  replace hb1 := Lib.hid (hb1.out.trans (hb2.mono hb1.out.size))
  clear hb2 c0 c1 c2 c3 c4 c5
  go_wp2_with fail
  go_ret2
  exact ⟨rfl, hb1.out⟩

set_option maxHeartbeats 1000000 in
theorem stored_ok (s n k d t r : Int) (h : ParOk s n k d t r) (z : Nat → Addr) (w : World) (hE : ParErrs w z) :
    Calls Tryd.prog 19 #[.agg #[.int .i64 s, .int .i64 n, .int .i64 k, .int .i64 d, .int .i64 t, .int .i64 r]] w fun e w' => e = .returned (.tuple #[.int .i64 (totalOf s + n), .nilIface]) ∧ Below w.heap.size w w' := by
  have hT := total_bd s h.1
  have hn := h.2.1
  have hb1 := Lib.hid ((Below.refl w.heap.size w).alloc (Nat.le_refl _) (.cells #[.int .i64 s, .int .i64 n, .int .i64 k, .int .i64 d, .int .i64 t, .int .i64 r] 24))
  have hp := Lib.hid (heap_alloc_new w (.cells #[.int .i64 s, .int .i64 n, .int .i64 k, .int .i64 d, .int .i64 t, .int .i64 r] 24))
  have hcall := Lib.hid (plain_ok s n k d t r h z _ (hE.below hb1.out))
  clear h
  generalize totalOf s = T at *
  go_enter Tryd.func19, Tryd.ntmps19
  go_wp2_with (refine wpList_load_row rfl 24 (.tmp 1) rfl w.heap.size #[.int .i64 s, .int .i64 n, .int .i64 k, .int .i64 d, .int .i64 t, .int .i64 r] _ rfl hp Tryd.underlying24 rfl (by kernel_rfl) ?_)
  with_reducible refine hcall.out.mono ?_
  rintro e w1 ⟨rfl, hb2⟩
  replace hp := Lib.hid ((hb2.block _ (by simp)).trans hp.out)
  replace hb1 := Lib.hid (hb1.out.trans (hb2.mono hb1.out.size))
  obtain ⟨c0, c1, c2, c3, c4, c5⟩ := box6 hp.out
  clear hb2 hcall
  go_wp2_with fail
  go_ret2
  exact ⟨rfl, hb1.out⟩

theorem bad_spots (z : Nat → Addr) (w : World) (hE : ParErrs w z) : Calls Tryd.prog 9 #[.agg #[.int .i64 100, .int .i64 4, .int .i64 0, .int .i64 20, .int .i64 4, .int .i64 2]] w fun e w' => ∃ g, e = .returned (.iface 56 (.pointer (some ⟨g, 0, none⟩))) ∧ w'.heap[g]? = some (.cells #[.string ⟨#[115, 112, 111, 116, 115]⟩, .int .i64 0, .iface 123 (.pointer (some (z 0)))] 59 (0, 0)) ∧ Below w.heap.size w w' := by
  refine (check_bad2 100 4 0 20 4 2 (by omega) (by omega) (by omega) z w hE).mono ?_
  rintro e w' ⟨v, rfl, ⟨g, rfl, _, hg⟩, hb⟩
  exact ⟨g, rfl, hg, hb⟩

set_option maxRecDepth 10000 in
set_option maxHeartbeats 4000000 in
theorem alive15_any (z : Nat → Addr) (w : World) (hE : ParErrs w z) (hT : TypeVar w) : Calls Tryd.prog 7 #[] w fun e w' => e = .returned (.bool true) ∧ Below w.heap.size w w' := by
  have hok : ParOk 100 4 4 20 4 2 := by unfold ParOk; omega
  have e1 : totalOf 100 + 4 = 49 := by decide
  replace hE := Lib.hid hE
  replace hT := Lib.hid hT
  replace hok := Lib.hid hok
  go_enter Tryd.func7, Tryd.ntmps7
  go_wp2_with fail
  refine (default_any 100 _).mono ?_
  rintro e w1 ⟨rfl, hb1⟩
  have hb2 := hb1.alloc hb1.size (.cells #[.int .i64 100, .int .i64 4, .int .i64 0, .int .i64 20, .int .i64 4, .int .i64 2] 24)
  replace hE := Lib.hid (hE.out.below hb2)
  replace hT := Lib.hid (hT.out.below hb2)
  replace hb1 := Lib.hid hb2
  clear hb2
  go_wp2_with fail
  with_reducible refine (bad_spots z _ hE.out).mono ?_
  rintro e w2 ⟨g, rfl, hg, hb2⟩
  replace hE := Lib.hid (hE.out.below hb2)
  replace hT := Lib.hid (hT.out.below hb2)
  replace hb1 := Lib.hid (hb1.out.trans (hb2.mono hb1.out.size))
  replace hg := Lib.hid hg
  clear hb2
  go_wp2_with fail
  with_reducible refine (field_hit g _ _ _ _ hT.out hg.out).mono ?_
  rintro e w3 ⟨rfl, hb2⟩
  replace hE := Lib.hid (hE.out.below hb2)
  replace hb1 := Lib.hid (hb1.out.trans (hb2.mono hb1.out.size))
  clear hb2 hg hT
  go_wp2_with fail
  with_reducible refine (default_any 100 _).mono ?_
  rintro e w4 ⟨rfl, hb2⟩
  replace hE := Lib.hid (hE.out.below hb2)
  replace hb1 := Lib.hid (hb1.out.trans (hb2.mono hb1.out.size))
  clear hb2
  go_wp2_with fail
  with_reducible refine (stored_ok 100 4 4 20 4 2 hok.out z _ hE.out).mono ?_
  rintro e w5 ⟨rfl, hb2⟩
  rw [e1]
  replace hE := Lib.hid (hE.out.below hb2)
  replace hb1 := Lib.hid (hb1.out.trans (hb2.mono hb1.out.size))
  clear hb2
  go_wp2_with fail
  with_reducible refine (default_any 100 _).mono ?_
  rintro e w6 ⟨rfl, hb2⟩
  replace hE := Lib.hid (hE.out.below hb2)
  replace hb1 := Lib.hid (hb1.out.trans (hb2.mono hb1.out.size))
  clear hb2
  go_wp2_with fail
  with_reducible refine (check_lit 100 4 4 20 4 2 hok.out z _ hE.out).mono ?_
  rintro e w7 ⟨rfl, hb2⟩
  replace hb1 := Lib.hid (hb1.out.trans (hb2.mono hb1.out.size))
  clear hb2
  go_wp2_with fail
  go_ret
  exact ⟨rfl, hb1.out⟩

theorem bad_size (n : Int) (h : n < 0 ∨ 2000 < n) (z : Nat → Addr) (w : World) (hE : ParErrs w z) : Calls Tryd.prog 9 #[.agg #[.int .i64 n, .int .i64 4, .int .i64 4, .int .i64 20, .int .i64 4, .int .i64 2]] w fun e w' => ∃ g, e = .returned (.iface 56 (.pointer (some ⟨g, 0, none⟩))) ∧ Below w.heap.size w w' := by
  refine (check_bad0 n 4 4 20 4 2 h z w hE (by omega)).mono ?_
  rintro e w' ⟨v, rfl, ⟨g, rfl, _, hg⟩, hb⟩
  exact ⟨g, rfl, hb⟩

set_option maxHeartbeats 4000000 in
theorem default_walk (n : Int) (w : World) (_ : (Lit.int .i64 n).wf = true) (z : Nat → Addr) (hE : ParErrs w z) (hT : TypeVar w) : Calls Tryd.prog 3 #[.int .i64 n] w fun e w' => e = .returned (.bool true) ∧ Below w.heap.size w w' := by
  have hal := Lib.hid (alive15_any z w hE hT)
  replace hE := Lib.hid hE
  clear hT
  rcases (show (n < 0 ∨ 2000 < n) ∨ (0 ≤ n ∧ n ≤ 2000) from by omega) with h | h
  · have hbad := Lib.hid (fun W (hE : ParErrs W z) => bad_size n h z W hE)
    rcases h with h | h
    all_goals
      go_enter Tryd.func3, Tryd.ntmps3
      go_wp2_with fail
      with_reducible refine hal.out.mono ?_
      rintro e w1 ⟨rfl, hb1⟩
      replace hE := Lib.hid (hE.out.below hb1)
      replace hb1 := Lib.hid hb1
      go_wp2_with fail
      with_reducible refine (default_any n _).mono ?_
      rintro e w2 ⟨rfl, hb2⟩
      replace hE := Lib.hid ((hE.out.below hb2).below ((Below.refl _ w2).alloc (Nat.le_refl _) (.cells #[.int .i64 n, .int .i64 4, .int .i64 4, .int .i64 20, .int .i64 4, .int .i64 2] 24)))
      replace hb1 := Lib.hid ((hb1.out.trans (hb2.mono hb1.out.size)).alloc (Nat.le_trans hb1.out.size hb2.size) (.cells #[.int .i64 n, .int .i64 4, .int .i64 4, .int .i64 20, .int .i64 4, .int .i64 2] 24))
      clear hb2
      go_wp2_with fail
      with_reducible refine (hbad.out _ hE.out).mono ?_
      rintro e w3 ⟨g, rfl, hb2⟩
      replace hb1 := Lib.hid (hb1.out.trans (hb2.mono hb1.out.size))
      clear hb2
      go_wp2_with fail
      go_ret
      exact ⟨by first | rfl | simp [show ¬ n ≤ 2000 from by omega], hb1.out⟩
  · have hok : ParOk n 4 4 20 4 2 := by unfold ParOk; omega
    replace hok := Lib.hid hok
    obtain ⟨h1, h2⟩ := h
    go_enter Tryd.func3, Tryd.ntmps3
    go_wp2_with fail
    with_reducible refine hal.out.mono ?_
    rintro e w1 ⟨rfl, hb1⟩
    replace hE := Lib.hid (hE.out.below hb1)
    replace hb1 := Lib.hid hb1
    go_wp2_with fail
    with_reducible refine (default_any n _).mono ?_
    rintro e w2 ⟨rfl, hb2⟩
    replace hE := Lib.hid ((hE.out.below hb2).below ((Below.refl _ w2).alloc (Nat.le_refl _) (.cells #[.int .i64 n, .int .i64 4, .int .i64 4, .int .i64 20, .int .i64 4, .int .i64 2] 24)))
    replace hb1 := Lib.hid ((hb1.out.trans (hb2.mono hb1.out.size)).alloc (Nat.le_trans hb1.out.size hb2.size) (.cells #[.int .i64 n, .int .i64 4, .int .i64 4, .int .i64 20, .int .i64 4, .int .i64 2] 24))
    clear hb2
    go_wp2_with fail
    with_reducible refine (check_lit n 4 4 20 4 2 hok.out z _ hE.out).mono ?_
    rintro e w3 ⟨rfl, hb2⟩
    replace hb1 := Lib.hid (hb1.out.trans (hb2.mono hb1.out.size))
    clear hb2
    go_wp2_with fail
    go_ret
    exact ⟨rfl, hb1.out⟩

end Go.Proofs.YtebfjpagecakjaaDoor
