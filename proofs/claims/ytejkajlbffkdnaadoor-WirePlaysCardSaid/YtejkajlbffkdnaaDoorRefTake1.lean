/- Walks over the reference's wire: Take, Drop, Clear. (Printed by n24/on/genref2.py.) -/
import Derived.Test.YtejkajlbffkdnaaDoorRef24
import Derived.Test.YtejkajlbffkdnaaDoorRefOut1
import Derived.Test.YtejkajlbffkdnaaDoorWire3
namespace Go.Proofs.YtejkajlbffkdnaaDoor
open Go.RowKit


set_option maxRecDepth 100000 in
set_option maxHeartbeats 4000000 in
theorem rtake1 (base M i : Nat) (T : TypeId) (y z : Way) (w : World) (h : RefW base w M T y z) (hb : base ≤ w.heap.size) (hs : Small z) (hl : z.ms.length ≤ 1000) (hi : i < z.ms.length) :
    Calls Tryd.prog 26 #[.pointer (some ⟨M, 0, none⟩), .int .i64 1, .int .i64 i] w fun x w' => x = .returned (.tuple #[encM z.ms[i], .int .i64 0]) ∧ ∃ x', RStep base w w' M T y z y x' ∧ x'.i = z.i ∧ x'.o = z.o + 1 ∧ x'.l = z.l  ∧ x'.ms = z.ms.eraseIdx i ∧ OwnB base w' (encM z.ms[i]) (z.ms[i]).bs := by
  have hok := h.ok1
  have hn := h.n1
  obtain ⟨g, cap, hv⟩ := hok.form1 (by omega)
  have hcv : w.cell? ⟨M, 1, none⟩ = some (.slice (some ⟨g, 0, none⟩) z.ms.length cap) := by rw [h.c]; simp [rcells, hv]
  have hcm : w.cell? ⟨g, i, none⟩ = some (.slice (some ⟨(z.ms[i]).b, 0, none⟩) (z.ms[i]).bs.length (z.ms[i]).cap) := hok.cell hv i hi
  have hth := Lib.hid (rthere_yes1 M i _ _ _ w hcv hi)
  have hwo := Lib.hid (rwithout1 base M i T y z w h hb hl hi)
  have hin : (i : Int) < z.ms.length := by omega
  have hmem := List.getElem_mem hi
  obtain ⟨k1, k2, k3⟩ := hok.msg _ hmem
  have hbM : (z.ms[i]).b ≠ M := fun e => hn (e ▸ mem_blks_m hmem)
  have hwr : IntKind.i64.wrap (z.o + 1) = z.o + 1 := IntWalk.i64_in _ (by have := hs.o; omega)
  replace k3 := Lib.hid k3
  replace hbM := Lib.hid hbM
  clear hok hn hv hmem k1 k2
  go_enter Tryd.func26, Tryd.ntmps26
  go_wp2_with fail
  with_reducible refine hth.out.mono ?_
  rintro e w1 ⟨rfl, rfl⟩
  clear hth
  go_wp2_with fail
  with_reducible refine hwo.out.mono ?_
  rintro e w1 ⟨rfl, x1, hst, q1, q2, q3, q4⟩
  have hat1 := hst.ref.at_
  have hn1 := hst.ref.n1
  have hok1 := hst.ref.ok1
  have hc1 : w1.cell? ⟨M, 6, none⟩ = some (.int .i64 z.o) := by rw [hst.ref.c]; show some (Value.int .i64 x1.o) = _; rw [q2]
  have hf1 : w1.frozen? ⟨M, 6, none⟩ = false := hst.ref.f _
  replace hst := Lib.hid hst
  replace hat1 := Lib.hid hat1
  replace hn1 := Lib.hid hn1
  replace hok1 := Lib.hid hok1
  replace q4 := Lib.hid q4
  replace q1 := Lib.hid q1
  replace q2 := Lib.hid q2
  replace q3 := Lib.hid q3
  clear hwo hcv hcm
  go_wp2_with fail
  go_still_tail 12, (by kernel_rfl)
  change wpList _ _ _ _ _ w1.drew
  go_wp2_with fail
  go_ret2
  have hU := ((Upd.refl hat1.out).setCell (j := 6) (.int .i64 (z.o + 1))).drew
  have hO := Only.ofUpd (D := fun k => k = M) hU rfl
  have hst2 := RStep.of1 hst.out.ref hO (rnums_ok hok1.out hn1.out hO x1.i (z.o + 1) x1.l) (hU.to rfl).here
  have hst3 := hst.out.trans hst2
  exact ⟨rfl, _, hst3, q1.out, rfl, q3.out, q4.out, hst3.only.owns k3.out fun k hk e => hbM.out (by subst e; simpa [encM, Value.ownBlock] using hk)⟩

set_option maxRecDepth 100000 in
set_option maxHeartbeats 4000000 in
theorem rdrop1 (base M i : Nat) (T : TypeId) (y z : Way) (w : World) (h : RefW base w M T y z) (hb : base ≤ w.heap.size) (hs : Small z) (hl : z.ms.length ≤ 1000) (hi : i < z.ms.length) :
    Calls Tryd.prog 27 #[.pointer (some ⟨M, 0, none⟩), .int .i64 1, .int .i64 i] w fun x w' => x = .returned (.int .i64 0) ∧ ∃ x', RStep base w w' M T y z y x' ∧ x'.i = z.i ∧ x'.o = z.o  ∧ x'.l = z.l + 1 ∧ x'.ms = z.ms.eraseIdx i ∧ OwnB base w' (encM z.ms[i]) (z.ms[i]).bs := by
  have hok := h.ok1
  have hn := h.n1
  obtain ⟨g, cap, hv⟩ := hok.form1 (by omega)
  have hcv : w.cell? ⟨M, 1, none⟩ = some (.slice (some ⟨g, 0, none⟩) z.ms.length cap) := by rw [h.c]; simp [rcells, hv]
  have hcm : w.cell? ⟨g, i, none⟩ = some (.slice (some ⟨(z.ms[i]).b, 0, none⟩) (z.ms[i]).bs.length (z.ms[i]).cap) := hok.cell hv i hi
  have hth := Lib.hid (rthere_yes1 M i _ _ _ w hcv hi)
  have hwo := Lib.hid (rwithout1 base M i T y z w h hb hl hi)
  have hin : (i : Int) < z.ms.length := by omega
  have hmem := List.getElem_mem hi
  obtain ⟨k1, k2, k3⟩ := hok.msg _ hmem
  have hbM : (z.ms[i]).b ≠ M := fun e => hn (e ▸ mem_blks_m hmem)
  have hwr : IntKind.i64.wrap (z.l + 1) = z.l + 1 := IntWalk.i64_in _ (by have := hs.l; omega)
  replace k3 := Lib.hid k3
  replace hbM := Lib.hid hbM
  clear hok hn hv hmem k1 k2
  go_enter Tryd.func27, Tryd.ntmps27
  go_wp2_with fail
  with_reducible refine hth.out.mono ?_
  rintro e w1 ⟨rfl, rfl⟩
  clear hth
  go_wp2_with fail
  with_reducible refine hwo.out.mono ?_
  rintro e w1 ⟨rfl, x1, hst, q1, q2, q3, q4⟩
  have hat1 := hst.ref.at_
  have hn1 := hst.ref.n1
  have hok1 := hst.ref.ok1
  have hc1 : w1.cell? ⟨M, 7, none⟩ = some (.int .i64 z.l) := by rw [hst.ref.c]; show some (Value.int .i64 x1.l) = _; rw [q3]
  have hf1 : w1.frozen? ⟨M, 7, none⟩ = false := hst.ref.f _
  replace hst := Lib.hid hst
  replace hat1 := Lib.hid hat1
  replace hn1 := Lib.hid hn1
  replace hok1 := Lib.hid hok1
  replace q4 := Lib.hid q4
  replace q1 := Lib.hid q1
  replace q2 := Lib.hid q2
  replace q3 := Lib.hid q3
  clear hwo hcv hcm
  go_wp2_with fail
  go_still_tail 12, (by kernel_rfl)
  change wpList _ _ _ _ _ w1.drew
  go_wp2_with fail
  go_ret
  have hU := ((Upd.refl hat1.out).setCell (j := 7) (.int .i64 (z.l + 1))).drew
  have hO := Only.ofUpd (D := fun k => k = M) hU rfl
  have hst2 := RStep.of1 hst.out.ref hO (rnums_ok hok1.out hn1.out hO x1.i x1.o (z.l + 1)) (hU.to rfl).here
  have hst3 := hst.out.trans hst2
  exact ⟨rfl, _, hst3, q1.out, q2.out, rfl, q4.out, hst3.only.owns k3.out fun k hk e => hbM.out (by subst e; simpa [encM, Value.ownBlock] using hk)⟩

end Go.Proofs.YtejkajlbffkdnaaDoor
