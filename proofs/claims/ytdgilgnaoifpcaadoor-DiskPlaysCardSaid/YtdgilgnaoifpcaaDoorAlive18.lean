/- Disk: Sure, Read in the plain machine's words; the chapter's example. -/
import Derived.Test.YtdgilgnaoifpcaaDoorDiskC
namespace Go.Proofs.YtdgilgnaoifpcaaDoor
open Go.RowKit

theorem DErr.below {w w' : World} {e : Nat → Addr} (h : DErr w e) (hb : Below w.heap.size w w') : DErr w' e :=
  ⟨(hb.cell (p := ⟨0, 0, none⟩) (World.block_lt_of_cell? w _ h.range)).trans h.range, (hb.cell (p := ⟨1, 0, none⟩) (World.block_lt_of_cell? w _ h.size)).trans h.size, (hb.cell (p := ⟨2, 0, none⟩) (World.block_lt_of_cell? w _ h.power)).trans h.power⟩
theorem DErr.ltP {w : World} {e : Nat → Addr} (h : DErr w e) : 2 < w.heap.size := by have := World.block_lt_of_cell? w _ h.power; simpa using this

theorem dsure_dm {base : Nat} {w : World} {B mb mn : Nat} {v : Value} {p : DP} (h : DM base w B mb mn v p) (hn : p.n ≤ 2048) (i : Int) (h0 : 0 ≤ i) (h1 : i < p.n) :
    Calls Tryd.prog 10 #[.pointer (some ⟨B, 0, none⟩), .int .i64 i] w fun x w' => ∃ g, x = .returned (.tuple #[.slice (some ⟨g, 0, none⟩) 64 64, .nilIface]) ∧ SecBlk w' g (p.f i) ∧ w.heap.size ≤ g ∧ Below w.heap.size w w' :=
  dsure_yes B mb mn p.f p.n i h0 h1 hn w (by rw [h.cell]; rfl) (by rw [h.cell]; rfl) h.map
theorem dread_dm {base : Nat} {w : World} {B mb mn : Nat} {v : Value} {p : DP} (h : DM base w B mb mn v p) (hn : p.n ≤ 2048) (hws : p.ws.length ≤ 100000) (hg : p.gone = false) (i : Int) (h0 : 0 ≤ i) (h1 : i < p.n) :
    Calls Tryd.prog 12 #[.pointer (some ⟨B, 0, none⟩), .int .i64 i] w fun x w' => ∃ g off, x = .returned (.tuple #[.slice (some ⟨g, off, none⟩) 64 64, .nilIface]) ∧ RdBlk w' g off (seenW p.ws p.f i) ∧ w.heap.size ≤ g ∧ Below w.heap.size w w' := by
  obtain ⟨a, c, rfl⟩ := h.form
  exact dread_yes B mb mn p.f p.n i h0 h1 hn w a c p.ws (by omega) (by rw [h.cell]; rfl) (by rw [h.cell]; rfl) (by rw [h.cell]; rfl) (by rw [h.cell, hg]; rfl) h.map (fun q hq => (h.lens q hq).1) h.rowN
theorem dwaits_dm {base : Nat} {w : World} {B mb mn : Nat} {v : Value} {p : DP} (h : DM base w B mb mn v p) : Calls Tryd.prog 17 #[.pointer (some ⟨B, 0, none⟩)] w fun x w' => x = .returned (.int .i64 p.ws.length) ∧ w = w' := by
  obtain ⟨a, c, rfl⟩ := h.form
  exact dwaits_any B a _ c w (by rw [h.cell]; rfl)

set_option maxRecDepth 100000 in
set_option maxHeartbeats 1000000 in
theorem alive18_any (w : World) (e : Nat → Addr) (hE : DErr w e) : Calls Tryd.prog 5 #[] w fun x w' => x = .returned (.bool true) ∧ Below w.heap.size w w' := by
  have hn := Lib.hid (dnew_yes 2 (by decide) (by decide) w)
  have hd := dm_new 2 w w.heap.size (Nat.le_refl _)
  have hb1 : Below w.heap.size w ((w.alloc (.map #[] 0)).alloc (.cells (dcells 2 w.heap.size (.slice none 0 0) false 0 false) 59)) := ((Below.refl _ _).alloc (Nat.le_refl _) _).alloc (by simp) _
  have hmk : ∀ w : World, (Instr.makeSlice 36 (.int .i64 64) (.int .i64 64)).run Tryd.prog w = .ok (.slice (some ⟨w.heap.size, 0, none⟩) 64 64) (w.alloc (.cells (cB zSec).toArray 5)) := fun _ => by kernel_rfl
  have hs1 : ((w.alloc (.map #[] 0)).alloc (.cells (dcells 2 w.heap.size (.slice none 0 0) false 0 false) 59)).heap.size = w.heap.size + 2 := by simp
  generalize hW1 : (w.alloc (.map #[] 0)).alloc (.cells (dcells 2 w.heap.size (.slice none 0 0) false 0 false) 59) = w1 at *
  have hG2 : Below w1.heap.size w1 (w1.alloc (.cells (cB zSec).toArray 5)) := (Below.refl _ _).alloc (Nat.le_refl _) _
  have hd2 := hd.below hG2
  have hb2 : Below w.heap.size w (w1.alloc (.cells (cB zSec).toArray 5)) := hb1.trans (hG2.mono hb1.size)
  have ha := argB_lit w1 5 zSec _ rfl (by simp [zSec])
  have hE2 : DErr (w1.alloc (.cells (cB zSec).toArray 5)) e := ⟨(hb2.cell (p := ⟨0, 0, none⟩) (World.block_lt_of_cell? w _ hE.range)).trans hE.range, (hb2.cell (p := ⟨1, 0, none⟩) (World.block_lt_of_cell? w _ hE.size)).trans hE.size, (hb2.cell (p := ⟨2, 0, none⟩) (World.block_lt_of_cell? w _ hE.power)).trans hE.power⟩
  have hw := dwrite_any hd2 hb2.size (by decide) (by decide) e hE2 (by have := World.block_lt_of_cell? w _ hE.power; simp only at this; omega) 1 _ _ zSec ha (by
    rintro b o s e
    cases e
    rintro (h | h | h)
    · omega
    · omega
    · cases h)
  rw [hs1, show zSec.length = 64 from by simp [zSec]] at hw
  have hpw : (DP.new 2).write 1 zSec = (⟨2, fun _ => zSec, [(1, zSec)], false, -1, false⟩, 0) := by
    unfold DP.write DP.new
    rw [if_neg (by decide), if_neg (by simp [zSec])]
    rfl
  rw [hpw] at hw
  replace hw := Lib.hid hw
  replace hd := Lib.hid hd
  replace hd2 := Lib.hid hd2
  replace hb1 := Lib.hid hb1
  replace hb2 := Lib.hid hb2
  replace hW1 := Lib.hid hW1
  clear hG2 ha hpw
  go_enter Tryd.func5, Tryd.ntmps5
  go_wp2_with fail
  with_reducible refine hn.out.mono ?_
  rintro x w' ⟨rfl, hq⟩
  obtain rfl : w1 = w' := hq.symm
  clear hq hn hW1
  go_wp2_with fail
  with_reducible refine hw.out.mono ?_
  rintro x w3 ⟨rfl, v3, hst⟩
  clear hw
  have hwt := Lib.hid (dwaits_dm hst.ok)
  have hcr := Lib.hid (dcrash_dm hst.ok (by decide) (by decide) (by decide) 0 0 0 0 rfl (by decide) (by decide) (by decide))
  have hb3 := Lib.hid (hb2.out.trans (hst.only.below hb2.out.size (fun k hk => (hd2.out.lt k hk).1)))
  have hlt3 := Lib.hid hst.ok.lt
  clear hst
  simp only [errV]
  go_wp2_with fail
  with_reducible refine hwt.out.mono ?_
  rintro x w4 ⟨rfl, hq⟩
  obtain rfl := hq
  clear hwt
  go_wp2_with fail
  with_reducible refine hcr.out.mono ?_
  rintro x w5 ⟨rfl, mn5, _, hst⟩
  clear hcr
  have hr := Lib.hid (dread_dm hst.ok (by decide) (by decide) rfl 1 (by decide) (by decide))
  have hb5 := Lib.hid (hb3.out.trans (hst.only.below hb3.out.size (fun k hk => (hlt3.out k hk).1)))
  have hok5 := Lib.hid hst.ok
  clear hst hlt3
  go_wp2_with fail
  with_reducible refine hr.out.mono ?_
  rintro x w6 ⟨g, off, rfl, _, _, hb6⟩
  clear hr
  have hwt := Lib.hid (dwaits_dm (hok5.out.below hb6))
  replace hb6 := Lib.hid (hb5.out.trans (hb6.mono hb5.out.size))
  clear hok5 hb5
  go_wp2_with fail
  with_reducible refine hwt.out.mono ?_
  rintro x w7 ⟨rfl, hq⟩
  obtain rfl := hq
  simp only [DP.crash, List.length_nil]
  go_wp2_with fail
  go_ret
  exact ⟨rfl, hb6.out⟩
end Go.Proofs.YtdgilgnaoifpcaaDoor
