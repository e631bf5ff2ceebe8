/- Walks over disk: Read where it answers an error. -/
import Derived.Test.YtdgilgnaoifpcaaDoorAlive18
import Derived.BigRegionIn
namespace Go.Proofs.YtdgilgnaoifpcaaDoor
open Go.RowKit Go.Shelf

theorem ret_read0 {fn : Func} {p q : Tmp} {R : Ending → World → Prop} {tmps : Array Value} {W : World} {bp bq : Nat} {v1 v2 : Value} (h : fn.results = #[.cell p 36, .cell q 29]) (h1 : Boxed W bp 36 v1) (h2 : Boxed W bq 29 v2)
    (hR : R (.returned (.tuple #[v1, v2])) W) (hp : tmps.getD p undef = .pointer (some ⟨bp, 0, none⟩) := by rfl) (hq : tmps.getD q undef = .pointer (some ⟨bq, 0, none⟩) := by rfl) :
    bodyPostM Fence.wide 3 Tryd.prog fn R .ret { tmps := tmps, defers := [] } W :=
  ⟨_, results_cells2 h _ _ _ _ _ _ hp hq (load_one (by kernel_rfl) h1.cell) (load_one (by kernel_rfl) h2.cell), hR⟩

section
attribute [local go_sem] Oper.semAt_some
set_option maxRecDepth 100000 in
set_option maxHeartbeats 1000000 in
theorem dread_no (B : Nat) (n i : Int) (h : i < 0 ∨ n ≤ i) (w : World) (hc : w.cell? ⟨B, 0, none⟩ = some (.int .i64 n)) (e : Nat → Addr) (hE : DErr w e) :
    Calls Tryd.prog 12 #[.pointer (some ⟨B, 0, none⟩), .int .i64 i] w fun x w' => x = .returned (.tuple #[.slice none 0 0, .iface 96 (.pointer (some (e 0)))]) ∧ Below w.heap.size w w' := by
  refine (callsIn_wide (n := 3)).1 ?_
  refine callsIn_of_wp_marks Tryd.func12 rfl trivial ?_ rfl
  simp only [Tryd.ntmps12, List.size_toArray, List.length_cons, List.length_nil, Nat.reduceAdd, Nat.reduceSub, Array.replicate_succ, Array.replicate_zero, List.push_toArray, List.append_toArray, List.nil_append, List.cons_append]
  have hBl := World.block_lt_of_cell? w _ hc
  obtain ⟨w1, hw1⟩ : ∃ w1, w1 = ((w.alloc (.cells #[.int .i64 i] 3)).alloc (.cells #[.slice none 0 0] 36)).alloc (.cells #[.nilIface] 29) := ⟨_, rfl⟩
  have b1 := (Boxed.new (w.alloc (.cells #[.int .i64 i] 3)) 36 (.slice none 0 0)).alloc (.cells #[.nilIface] 29)
  have b2 := Boxed.new ((w.alloc (.cells #[.int .i64 i] 3)).alloc (.cells #[.slice none 0 0] 36)) 29 .nilIface
  have b0 := ((Boxed.new w 3 (.int .i64 i)).alloc (.cells #[.slice none 0 0] 36)).alloc (.cells #[.nilIface] 29)
  have hG1 : Below w.heap.size w w1 := by rw [hw1]; exact (((Below.refl _ w).alloc (Nat.le_refl _) _).alloc (by simp) _).alloc (by simp; omega) _
  rw [← hw1] at b0 b1 b2
  simp only [World.size_alloc] at b1 b2
  have hc' : w1.cell? ⟨B, 0, none⟩ = some (.int .i64 n) := (hG1.cell (p := ⟨B, 0, none⟩) hBl).trans hc
  have hth := Lib.hid (dthere_no B n i h w1 hc' e (hE.below hG1))
  have d0 := b0.cell
  replace hw1 := Lib.hid hw1
  replace hc := Lib.hid hc
  replace hG1 := Lib.hid hG1
  clear h hc' hE
  gi_wp2_with fail
  rw [← hw1.out]
  refine ⟨trivial, (callsIn_wide.2 hth.out).mono ?_⟩
  rintro x w2 ⟨rfl, hq⟩
  obtain rfl := hq
  clear hth
  have g1 := b1.cell
  have g2 := b2.cell
  have f1 := b1.frozen
  have f2 := b2.frozen
  gi_wp2_with fail
  have hb1 := (b1.set (.slice none 0 0)).other (B' := w.heap.size + 1 + 1) (by omega) (.iface 96 (.pointer (some (e 0))))
  have hb2 := (b2.other (B' := w.heap.size + 1) (by omega) (.slice none 0 0)).set (.iface 96 (.pointer (some (e 0))))
  exact ret_read0 rfl hb1 hb2 ⟨rfl, (hG1.out.setCell (p := ⟨w.heap.size + 1, 0, none⟩) (by simp) _).setCell (p := ⟨w.heap.size + 1 + 1, 0, none⟩) (by simp; omega) _⟩
set_option maxRecDepth 100000 in
set_option maxHeartbeats 1000000 in
theorem dread_gone (B : Nat) (n i : Int) (h0 : 0 ≤ i) (h1 : i < n) (w : World) (hc : w.cell? ⟨B, 0, none⟩ = some (.int .i64 n)) (hc5 : w.cell? ⟨B, 5, none⟩ = some (.bool true)) (e : Nat → Addr) (hE : DErr w e) :
    Calls Tryd.prog 12 #[.pointer (some ⟨B, 0, none⟩), .int .i64 i] w fun x w' => x = .returned (.tuple #[.slice none 0 0, .iface 96 (.pointer (some (e 2)))]) ∧ Below w.heap.size w w' := by
  refine (callsIn_wide (n := 3)).1 ?_
  refine callsIn_of_wp_marks Tryd.func12 rfl trivial ?_ rfl
  simp only [Tryd.ntmps12, List.size_toArray, List.length_cons, List.length_nil, Nat.reduceAdd, Nat.reduceSub, Array.replicate_succ, Array.replicate_zero, List.push_toArray, List.append_toArray, List.nil_append, List.cons_append]
  have hBl := World.block_lt_of_cell? w _ hc
  obtain ⟨w1, hw1⟩ : ∃ w1, w1 = ((w.alloc (.cells #[.int .i64 i] 3)).alloc (.cells #[.slice none 0 0] 36)).alloc (.cells #[.nilIface] 29) := ⟨_, rfl⟩
  have b1 := (Boxed.new (w.alloc (.cells #[.int .i64 i] 3)) 36 (.slice none 0 0)).alloc (.cells #[.nilIface] 29)
  have b2 := Boxed.new ((w.alloc (.cells #[.int .i64 i] 3)).alloc (.cells #[.slice none 0 0] 36)) 29 .nilIface
  have b0 := ((Boxed.new w 3 (.int .i64 i)).alloc (.cells #[.slice none 0 0] 36)).alloc (.cells #[.nilIface] 29)
  have hG1 : Below w.heap.size w w1 := by rw [hw1]; exact (((Below.refl _ w).alloc (Nat.le_refl _) _).alloc (by simp) _).alloc (by simp; omega) _
  rw [← hw1] at b0 b1 b2
  simp only [World.size_alloc] at b1 b2
  have hc' : w1.cell? ⟨B, 0, none⟩ = some (.int .i64 n) := (hG1.cell (p := ⟨B, 0, none⟩) hBl).trans hc
  have hc5' : w1.cell? ⟨B, 5, none⟩ = some (.bool true) := (hG1.cell (p := ⟨B, 5, none⟩) hBl).trans hc5
  have hth := Lib.hid (dthere_yes B n i h0 h1 w1 hc')
  have d0 := b0.cell
  have hk := (hE.below hG1).power
  have hltP := hE.ltP
  replace hw1 := Lib.hid hw1
  replace hc := Lib.hid hc
  replace hG1 := Lib.hid hG1
  clear hc' hE hc5
  gi_wp2_with fail
  rw [← hw1.out]
  refine ⟨trivial, (callsIn_wide.2 hth.out).mono ?_⟩
  rintro x w2 ⟨rfl, hq⟩
  obtain rfl := hq
  clear hth
  have hgl : 2 < w.heap.size := hltP
  have hk2 : ∀ v, (w1.setCell ⟨w.heap.size + 1, 0, none⟩ v).cell? ⟨2, 0, none⟩ = some (.iface 96 (.pointer (some (e 2)))) := fun v => by
    rw [World.cell?_setCell_other _ _ _ _ (by intro e; injection e with e1; omega)]
    exact hk
  have g1 := b1.cell
  have g2 := b2.cell
  have f1 := b1.frozen
  have f2 := b2.frozen
  gi_wp2_with fail
  gi_region
  gi_wp2_with fail
  have hb1 := (b1.set (.slice none 0 0)).other (B' := w.heap.size + 1 + 1) (by omega) (.iface 96 (.pointer (some (e 2))))
  have hb2 := (b2.other (B' := w.heap.size + 1) (by omega) (.slice none 0 0)).set (.iface 96 (.pointer (some (e 2))))
  exact ret_read0 rfl hb1 hb2 ⟨rfl, (hG1.out.setCell (p := ⟨w.heap.size + 1, 0, none⟩) (by simp) _).setCell (p := ⟨w.heap.size + 1 + 1, 0, none⟩) (by simp; omega) _ |>.drew⟩
end
end Go.Proofs.YtdgilgnaoifpcaaDoor
