/- Walks over the reference's wire: Take, Drop, Clear. (Printed by n24/on/genref2.py.) -/
import Derived.Test.YtejkajlbffkdnaaDoorRef24
import Derived.Test.YtejkajlbffkdnaaDoorRefOut0
import Derived.Test.YtejkajlbffkdnaaDoorWire3
namespace Go.Proofs.YtejkajlbffkdnaaDoor
open Go.RowKit


set_option maxRecDepth 100000 in
set_option maxHeartbeats 2000000 in
theorem rclear_any (base M : Nat) (T : TypeId) (y z : Way) (w : World) (h : RefW base w M T y z) (hb : base ≤ w.heap.size) (hs0 : Small y) (hs1 : Small z) (hl0 : y.ms.length ≤ 1000) (hl1 : z.ms.length ≤ 1000) :
    Calls Tryd.prog 30 #[.pointer (some ⟨M, 0, none⟩)] w fun x w' => x = .returned (.tuple #[]) ∧ ∃ y' z', RStep base w w' M T y z y' z' ∧ (y'.i = y.i ∧ y'.o = y.o ∧ y'.l = y.l + y.ms.length ∧ y'.ms = []) ∧ (z'.i = z.i ∧ z'.o = z.o ∧ z'.l = z.l + z.ms.length ∧ z'.ms = []) := by
  have hat := h.at_
  have hMl := block_lt hat
  obtain ⟨a0, c0, hv0, _⟩ := h.ok0.form
  obtain ⟨a1, c1, hv1, _⟩ := h.ok1.form
  have k0 : w.cell? ⟨M, 0, none⟩ = some (.slice a0 y.ms.length c0) := by rw [h.c]; simp [rcells, hv0]
  have k4 : w.cell? ⟨M, 4, none⟩ = some (.int .i64 y.l) := h.c 4
  have f0 := h.f 0
  have f4 := h.f 4
  have hw0 : IntKind.i64.wrap (y.l + y.ms.length) = y.l + y.ms.length := IntWalk.i64_in _ (by have := hs0.l; omega)
  have hw1 : IntKind.i64.wrap (z.l + z.ms.length) = z.l + z.ms.length := IntWalk.i64_in _ (by have := hs1.l; omega)
  replace h := Lib.hid h
  replace hat := Lib.hid hat
  replace hv1 := Lib.hid hv1
  clear hv0 hs0 hs1
  go_enter Tryd.func30, Tryd.ntmps30
  go_wp2_with fail
  refine wp_loop_rounds 3 ?_
  rw [rounds_succ]
  go_wp2_with fail
  go_still_tail 19, (by kernel_rfl)
  change wpList _ _ _ _ _ w.drew
  go_wp2_with fail
  generalize hW1 : ((w.setCell ⟨M, 4, none⟩ (.int .i64 (y.l + y.ms.length))).setCell ⟨M, 0, none⟩ (.slice none 0 0)).drew = w1
  have hU1 := (((Upd.refl (b := M) (w := w) hat.out).setCell (j := 4) (.int .i64 (y.l + y.ms.length))).setCell (j := 0) (.slice none 0 0)).drew
  rw [hW1] at hU1
  have k1 : w1.cell? ⟨M, 1, none⟩ = some (.slice a1 z.ms.length c1) := by rw [cell_of_block hU1.here]; simp [rcells, hv1.out]
  have k7 : w1.cell? ⟨M, 7, none⟩ = some (.int .i64 z.l) := by rw [cell_of_block hU1.here]; rfl
  have f1 : w1.frozen? ⟨M, 1, none⟩ = false := free_of_block hU1.here _
  have f7 : w1.frozen? ⟨M, 7, none⟩ = false := free_of_block hU1.here _
  replace hU1 := Lib.hid hU1
  replace hW1 := Lib.hid hW1
  clear k0 k4 f0 f4
  rw [rounds_succ]
  go_wp2_with fail
  go_still_tail 19, (by kernel_rfl)
  change wpList _ _ _ _ _ w1.drew
  go_wp2_with fail
  rw [rounds_succ]
  go_wp2_with fail
  go_end0
  have hU2 := (((Upd.refl (b := M) (w := w1) hU1.out.here).setCell (j := 7) (.int .i64 (z.l + z.ms.length))).setCell (j := 1) (.slice none 0 0)).drew
  have hO1 : Only (fun k => k = M) w w1 := Only.ofUpd (D := fun k => k = M) hU1.out rfl
  have hO2 : Only (fun k => k = M) w1 _ := Only.ofUpd (D := fun k => k = M) hU2 rfl
  have hnone : ∀ (W : World) (i o l : Int), RowR base W ⟨i, o, l, .slice none 0 0, []⟩ := fun W i o l => ⟨⟨rfl, .inl ⟨rfl, rfl⟩⟩, fun _ h => (by cases h)⟩
  have hst1 := RStep.of0 h.out hO1 (x := ⟨y.i, y.o, y.l + y.ms.length, .slice none 0 0, []⟩) ⟨hnone _ _ _ _, by simp [Way.blks, Value.ownBlock], fun k hk => by simp [Way.blks, Value.ownBlock] at hk⟩ (hU1.out.to rfl).here
  have hst2 := RStep.of1 hst1.ref hO2 (x := ⟨z.i, z.o, z.l + z.ms.length, .slice none 0 0, []⟩) ⟨hnone _ _ _ _, by simp [Way.blks, Value.ownBlock], fun k hk => by simp [Way.blks, Value.ownBlock] at hk⟩ (hU2.to rfl).here
  exact ⟨rfl, _, _, hst1.trans hst2, ⟨rfl, rfl, rfl, rfl⟩, rfl, rfl, rfl, rfl⟩

set_option maxRecDepth 100000 in
set_option maxHeartbeats 4000000 in
theorem rtake0 (base M i : Nat) (T : TypeId) (y z : Way) (w : World) (h : RefW base w M T y z) (hb : base ≤ w.heap.size) (hs : Small y) (hl : y.ms.length ≤ 1000) (hi : i < y.ms.length) :
    Calls Tryd.prog 26 #[.pointer (some ⟨M, 0, none⟩), .int .i64 0, .int .i64 i] w fun x w' => x = .returned (.tuple #[encM y.ms[i], .int .i64 0]) ∧ ∃ x', RStep base w w' M T y z x' z ∧ x'.i = y.i ∧ x'.o = y.o + 1 ∧ x'.l = y.l  ∧ x'.ms = y.ms.eraseIdx i ∧ OwnB base w' (encM y.ms[i]) (y.ms[i]).bs := by
  have hok := h.ok0
  have hn := h.n0
  obtain ⟨g, cap, hv⟩ := hok.form1 (by omega)
  have hcv : w.cell? ⟨M, 0, none⟩ = some (.slice (some ⟨g, 0, none⟩) y.ms.length cap) := by rw [h.c]; simp [rcells, hv]
  have hcm : w.cell? ⟨g, i, none⟩ = some (.slice (some ⟨(y.ms[i]).b, 0, none⟩) (y.ms[i]).bs.length (y.ms[i]).cap) := hok.cell hv i hi
  have hth := Lib.hid (rthere_yes0 M i _ _ _ w hcv hi)
  have hwo := Lib.hid (rwithout0 base M i T y z w h hb hl hi)
  have hin : (i : Int) < y.ms.length := by omega
  have hmem := List.getElem_mem hi
  obtain ⟨k1, k2, k3⟩ := hok.msg _ hmem
  have hbM : (y.ms[i]).b ≠ M := fun e => hn (e ▸ mem_blks_m hmem)
  have hwr : IntKind.i64.wrap (y.o + 1) = y.o + 1 := IntWalk.i64_in _ (by have := hs.o; omega)
  replace k3 := Lib.hid k3
  replace hbM := Lib.hid hbM
  clear hok hn hv hmem k1 k2
  go_enter Tryd.func26, Tryd.ntmps26
  go_wp2_with fail
  with_reducible refine hth.out.mono ?_
  rintro e w1 ⟨rfl, rfl⟩
  clear hth
  go_wp2_with fail
  with_reducible refine hwo.out.mono ?_
  rintro e w1 ⟨rfl, x1, hst, q1, q2, q3, q4⟩
  have hat1 := hst.ref.at_
  have hn1 := hst.ref.n0
  have hok1 := hst.ref.ok0
  have hc1 : w1.cell? ⟨M, 3, none⟩ = some (.int .i64 y.o) := by rw [hst.ref.c]; show some (Value.int .i64 x1.o) = _; rw [q2]
  have hf1 : w1.frozen? ⟨M, 3, none⟩ = false := hst.ref.f _
  replace hst := Lib.hid hst
  replace hat1 := Lib.hid hat1
  replace hn1 := Lib.hid hn1
  replace hok1 := Lib.hid hok1
  replace q4 := Lib.hid q4
  replace q1 := Lib.hid q1
  replace q2 := Lib.hid q2
  replace q3 := Lib.hid q3
  clear hwo hcv hcm
  go_wp2_with fail
  go_still_tail 12, (by kernel_rfl)
  change wpList _ _ _ _ _ w1.drew
  go_wp2_with fail
  go_ret2
  have hU := ((Upd.refl hat1.out).setCell (j := 3) (.int .i64 (y.o + 1))).drew
  have hO := Only.ofUpd (D := fun k => k = M) hU rfl
  have hst2 := RStep.of0 hst.out.ref hO (rnums_ok hok1.out hn1.out hO x1.i (y.o + 1) x1.l) (hU.to rfl).here
  have hst3 := hst.out.trans hst2
  exact ⟨rfl, _, hst3, q1.out, rfl, q3.out, q4.out, hst3.only.owns k3.out fun k hk e => hbM.out (by subst e; simpa [encM, Value.ownBlock] using hk)⟩

set_option maxRecDepth 100000 in
set_option maxHeartbeats 4000000 in
theorem rdrop0 (base M i : Nat) (T : TypeId) (y z : Way) (w : World) (h : RefW base w M T y z) (hb : base ≤ w.heap.size) (hs : Small y) (hl : y.ms.length ≤ 1000) (hi : i < y.ms.length) :
    Calls Tryd.prog 27 #[.pointer (some ⟨M, 0, none⟩), .int .i64 0, .int .i64 i] w fun x w' => x = .returned (.int .i64 0) ∧ ∃ x', RStep base w w' M T y z x' z ∧ x'.i = y.i ∧ x'.o = y.o  ∧ x'.l = y.l + 1 ∧ x'.ms = y.ms.eraseIdx i ∧ OwnB base w' (encM y.ms[i]) (y.ms[i]).bs := by
  have hok := h.ok0
  have hn := h.n0
  obtain ⟨g, cap, hv⟩ := hok.form1 (by omega)
  have hcv : w.cell? ⟨M, 0, none⟩ = some (.slice (some ⟨g, 0, none⟩) y.ms.length cap) := by rw [h.c]; simp [rcells, hv]
  have hcm : w.cell? ⟨g, i, none⟩ = some (.slice (some ⟨(y.ms[i]).b, 0, none⟩) (y.ms[i]).bs.length (y.ms[i]).cap) := hok.cell hv i hi
  have hth := Lib.hid (rthere_yes0 M i _ _ _ w hcv hi)
  have hwo := Lib.hid (rwithout0 base M i T y z w h hb hl hi)
  have hin : (i : Int) < y.ms.length := by omega
  have hmem := List.getElem_mem hi
  obtain ⟨k1, k2, k3⟩ := hok.msg _ hmem
  have hbM : (y.ms[i]).b ≠ M := fun e => hn (e ▸ mem_blks_m hmem)
  have hwr : IntKind.i64.wrap (y.l + 1) = y.l + 1 := IntWalk.i64_in _ (by have := hs.l; omega)
  replace k3 := Lib.hid k3
  replace hbM := Lib.hid hbM
  clear hok hn hv hmem k1 k2
  go_enter Tryd.func27, Tryd.ntmps27
  go_wp2_with fail
  with_reducible refine hth.out.mono ?_
  rintro e w1 ⟨rfl, rfl⟩
  clear hth
  go_wp2_with fail
  with_reducible refine hwo.out.mono ?_
  rintro e w1 ⟨rfl, x1, hst, q1, q2, q3, q4⟩
  have hat1 := hst.ref.at_
  have hn1 := hst.ref.n0
  have hok1 := hst.ref.ok0
  have hc1 : w1.cell? ⟨M, 4, none⟩ = some (.int .i64 y.l) := by rw [hst.ref.c]; show some (Value.int .i64 x1.l) = _; rw [q3]
  have hf1 : w1.frozen? ⟨M, 4, none⟩ = false := hst.ref.f _
  replace hst := Lib.hid hst
  replace hat1 := Lib.hid hat1
  replace hn1 := Lib.hid hn1
  replace hok1 := Lib.hid hok1
  replace q4 := Lib.hid q4
  replace q1 := Lib.hid q1
  replace q2 := Lib.hid q2
  replace q3 := Lib.hid q3
  clear hwo hcv hcm
  go_wp2_with fail
  go_still_tail 12, (by kernel_rfl)
  change wpList _ _ _ _ _ w1.drew
  go_wp2_with fail
  go_ret
  have hU := ((Upd.refl hat1.out).setCell (j := 4) (.int .i64 (y.l + 1))).drew
  have hO := Only.ofUpd (D := fun k => k = M) hU rfl
  have hst2 := RStep.of0 hst.out.ref hO (rnums_ok hok1.out hn1.out hO x1.i x1.o (y.l + 1)) (hU.to rfl).here
  have hst3 := hst.out.trans hst2
  exact ⟨rfl, _, hst3, q1.out, q2.out, rfl, q4.out, hst3.only.owns k3.out fun k hk e => hbM.out (by subst e; simpa [encM, Value.ownBlock] using hk)⟩

end Go.Proofs.YtejkajlbffkdnaaDoor
