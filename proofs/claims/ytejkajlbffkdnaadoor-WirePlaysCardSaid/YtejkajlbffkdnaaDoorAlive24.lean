/- The chapter's example of wire. -/
import Derived.Test.YtejkajlbffkdnaaDoorWire5
import Derived.Test.YtejkajlbffkdnaaDoorWire6
namespace Go.Proofs.YtejkajlbffkdnaaDoor
open Go.RowKit

set_option maxRecDepth 100000 in
set_option maxHeartbeats 1000000 in
theorem alive24_any (w : World) : Calls Tryd.prog 5 #[] w fun e w' => e = .returned (.bool true) ∧ Below w.heap.size w w' := by
  obtain ⟨T, hT⟩ : ∃ T, T = 54 := ⟨_, rfl⟩
  have hn := Lib.hid (wnew_any w)
  have hw1 := wnew_wire w w.heap.size (Nat.le_refl _)
  have hb1 : Below w.heap.size w (w.alloc (.cells (wcells ⟨0, 0, 0, .slice none 0 0, []⟩ ⟨0, 0, 0, .slice none 0 0, []⟩) 54)) := (Below.refl _ _).alloc (Nat.le_refl _) _
  rw [← hT] at hw1 hb1 hn
  generalize hW1 : w.alloc (.cells (wcells ⟨0, 0, 0, .slice none 0 0, []⟩ ⟨0, 0, 0, .slice none 0 0, []⟩) T) = w1 at *
  have hs1 : w1.heap.size = w.heap.size + 1 := by rw [← hW1]; simp
  have hw2 := hw1.only (w' := w1.alloc (.cells #[.int .u8 7] 5)) ((Only.refl (fun _ => False) _).alloc _) (fun _ _ h => h)
  have hb2 : Below w.heap.size w (w1.alloc (.cells #[.int .u8 7] 5)) := hb1.alloc (by omega) _
  have ha := argB_lit w1 5 [7] #[.int .u8 7] (by rfl) (by decide)
  have hsend := wsend0 w.heap.size w.heap.size T _ _ _ hw2 (by simp; omega) ⟨by decide, by decide, by decide⟩ (by decide) _ _ _ ha (by intro b o e; cases e; omega) (by decide)
  rw [hs1, show ([7] : List UInt8).length = 1 from rfl] at hsend
  replace hw1 := Lib.hid hw1
  replace hb1 := Lib.hid hb1
  replace hb2 := Lib.hid hb2
  replace hsend := Lib.hid hsend
  replace hW1 := Lib.hid hW1
  replace hT := Lib.hid hT
  clear hw2 ha
  go_enter Tryd.func5, Tryd.ntmps5
  go_wp2_with fail
  with_reducible refine hn.out.mono ?_
  rintro e w' ⟨rfl, hq⟩
  obtain rfl := hq.symm
  clear hq hn
  go_wp2_with fail
  with_reducible refine hsend.out.mono ?_
  rintro e w3 ⟨rfl, y3, m, hst, hyi, hyo, hyl, hms, hmb⟩
  have hbw : Below w.heap.size w w3 := hb2.out.trans (hst.only.below hb2.out.size (fun k hk => by
    rcases hk with rfl | hk | hk
    · exact Nat.le_refl _
    · simp [Way.blks, Value.ownBlock] at hk
    · simp [Way.blks, Value.ownBlock] at hk))
  have hms : y3.ms = [m] := hms
  have hl : y3.ms.length = 1 := by rw [hms]; rfl
  have htake := wtake0 w.heap.size w.heap.size 0 T y3 _ w3 hst.wire hbw.size ⟨by rw [hyi]; decide, by rw [hyo]; decide, by rw [hyl]; decide⟩ (by omega) (by omega)
  have hgm : (y3.ms[0]'(by omega)) = m := by simp [hms]
  rw [hgm, show ((0 : Nat) : Int) = 0 from rfl] at htake
  replace htake := Lib.hid htake
  have hst2 := Lib.hid hst.wire
  replace hbw := Lib.hid hbw
  replace hyo := Lib.hid hyo
  clear hst hsend hb2 hb1 hw1 hyi hyl hgm hl
  replace hms := Lib.hid hms
  go_wp2_with fail
  with_reducible refine htake.out.mono ?_
  rintro e w4 ⟨rfl, y4, hst4, h4i, h4o, h4l, h4m, hown, hnd⟩
  have hb4 := Lib.hid (hbw.out.trans (hst4.only.below hbw.out.size (fun k hk => (hst2.out.lt k hk).1)))
  have hc1 : w4.cell? ⟨w.heap.size, 1, none⟩ = some (.int .i64 1) := by rw [hst4.wire.c 1]; show some (Value.int .i64 y4.o) = _; rw [h4o, hyo.out]; rfl
  obtain ⟨mb, mc, mbs⟩ := m
  simp only at hmb
  subst hmb
  have hcm := OwnB.cell (j := 0) hown rfl (Nat.zero_lt_one)
  have hlt := World.block_lt_of_cell? w4 _ hc1
  have hcnt := Lib.hid (wcount0 w.heap.size y4.i 1 y4.l w4 (hst4.wire.c 0) hc1 (hst4.wire.c 2))
  simp only [encM]
  simp only [List.length_cons, List.length_nil, Nat.zero_add]
  clear htake hst4 h4i h4o h4l h4m hnd hown hst2 hbw hms hyo
  go_wp2_with fail
  with_reducible refine hcnt.out.mono ?_
  rintro e w5 ⟨rfl, hb5⟩
  have hfld : ∀ W, (Instr.field 38 (.agg #[.int .i64 y4.i, .int .i64 1, .int .i64 y4.l]) 1).run Tryd.prog W = .ok (.int .i64 1) W := fun W => by kernel_rfl
  have hb6 := Lib.hid (hb4.out.trans (hb5.mono hb4.out.size))
  clear hcnt hb4 hb5
  go_wp2_with fail
  go_ret
  exact ⟨rfl, hb6.out⟩
end Go.Proofs.YtejkajlbffkdnaaDoor
