/- Walks over wire: Clear. -/
import Derived.Test.YtejkajlbffkdnaaDoorWire3
import Derived.StillTailTactics
namespace Go.Proofs.YtejkajlbffkdnaaDoor
open Go.RowKit

set_option maxRecDepth 100000 in
set_option maxHeartbeats 1000000 in
theorem wclear_any (base W : Nat) (T : TypeId) (y z : Way) (w : World) (h : Wire base w W T y z) (hb : base ≤ w.heap.size) (hs0 : Small y) (hs1 : Small z) (hl0 : y.ms.length ≤ 1000) (hl1 : z.ms.length ≤ 1000) :
    Calls Tryd.prog 13 #[.pointer (some ⟨W, 0, none⟩)] w fun x w' => x = .returned (.tuple #[]) ∧ ∃ y' z', WStep base w w' W T y z y' z' ∧ (y'.i = y.i ∧ y'.o = y.o ∧ y'.l = y.l + y.ms.length ∧ y'.ms = []) ∧ (z'.i = z.i ∧ z'.o = z.o ∧ z'.l = z.l + z.ms.length ∧ z'.ms = []) := by
  have hat := h.at_
  have hWl := block_lt hat
  obtain ⟨a0, c0, hv0, _⟩ := h.ok0.form
  obtain ⟨a1, c1, hv1, _⟩ := h.ok1.form
  have k2 : w.cell? ⟨W, 2, none⟩ = some (.int .i64 y.l) := h.c 2
  have k3 : w.cell? ⟨W, 3, none⟩ = some (.slice a0 y.ms.length c0) := by rw [h.c]; simp [wcells, hv0]
  have f2 := h.f 2
  have f3 := h.f 3
  have hw0 : IntKind.i64.wrap (y.l + y.ms.length) = y.l + y.ms.length := IntWalk.i64_in _ (by have := hs0.l; omega)
  have hw1 : IntKind.i64.wrap (z.l + z.ms.length) = z.l + z.ms.length := IntWalk.i64_in _ (by have := hs1.l; omega)
  replace h := Lib.hid h
  replace hat := Lib.hid hat
  clear hv0 hs0 hs1
  replace hv1 := Lib.hid hv1
  go_enter Tryd.func13, Tryd.ntmps13
  go_wp2_with fail
  refine wp_loop_rounds 3 ?_
  rw [rounds_succ]
  go_wp2_with fail
  go_still_tail 14, (by kernel_rfl)
  change wpList _ _ _ _ _ w.drew
  go_wp2_with fail
  generalize hw1 : ((w.setCell ⟨W, 2, none⟩ (.int .i64 (y.l + y.ms.length))).setCell ⟨W, 3, none⟩ (.slice none 0 0)).drew = w1
  have hU1 := (((Upd.refl (b := W) (w := w) hat.out).setCell (j := 2) (.int .i64 (y.l + y.ms.length))).setCell (j := 3) (.slice none 0 0)).drew
  rw [hw1] at hU1
  have k6 : w1.cell? ⟨W, 6, none⟩ = some (.int .i64 z.l) := by rw [cell_of_block hU1.here]; rfl
  have k7 : w1.cell? ⟨W, 7, none⟩ = some (.slice a1 z.ms.length c1) := by rw [cell_of_block hU1.here]; simp [wcells, hv1.out]
  have f6 : w1.frozen? ⟨W, 6, none⟩ = false := free_of_block hU1.here _
  have f7 : w1.frozen? ⟨W, 7, none⟩ = false := free_of_block hU1.here _
  replace hU1 := Lib.hid hU1
  replace hw1 := Lib.hid hw1
  rw [rounds_succ]
  go_wp2_with fail
  go_still_tail 14, (by kernel_rfl)
  change wpList _ _ _ _ _ w1.drew
  go_wp2_with fail
  rw [rounds_succ]
  go_wp2_with fail
  go_end0
  have hU2 := (((Upd.refl (b := W) (w := w1) hU1.out.here).setCell (j := 6) (.int .i64 (z.l + z.ms.length))).setCell (j := 7) (.slice none 0 0)).drew
  have hO1 : Only (fun k => k = W) w w1 := Only.ofUpd (D := fun k => k = W) hU1.out rfl
  have hO2 : Only (fun k => k = W) w1 _ := Only.ofUpd (D := fun k => k = W) hU2 rfl
  have hst1 := WStep.ofUpd0 h.out hb (clear_ok (y := y) (base := base) hO1 y.i y.o (y.l + y.ms.length)) (hU1.out.to rfl).here
  have hst2 := WStep.ofUpd1 hst1.wire (by have := hO1.size; omega) (clear_ok (y := z) (base := base) hO2 z.i z.o (z.l + z.ms.length)) (hU2.to rfl).here
  refine ⟨rfl, _, _, ⟨hst2.wire, hst1.only.trans hst2.only fun k hk hd => ?_, fun k hk => ?_⟩, ⟨rfl, rfl, rfl, rfl⟩, rfl, rfl, rfl, rfl⟩
  · rcases hst1.new k hd with h | h
    · exact h
    · omega
  · rcases hst2.new k hk with h | h
    · exact hst1.new k h
    · have := hO1.size
      exact .inr (by omega)
end Go.Proofs.YtejkajlbffkdnaaDoor
