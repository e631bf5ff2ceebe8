/- WirePlays returns true, for all acts. (Printed by n24/on/genplays.py.) -/
import Derived.Test.YtejkajlbffkdnaaDoorDoA
import Derived.Test.YtejkajlbffkdnaaDoorPlays24
namespace Go.Proofs.YtejkajlbffkdnaaDoor
open Go.RowKit

abbrev ZW : Way := ⟨0, 0, 0, .slice none 0 0, []⟩
theorem mid_new (w : World) : Mid w.heap.size w.heap.size 54 (w.heap.size + 1) 47 ((w.alloc (.cells (wcells ZW ZW) 54)).alloc (.cells (rcells ZW ZW) 47)) ZW ZW ZW ZW := by
  have hr : ∀ W', RowR w.heap.size W' ZW := fun W' => ⟨⟨rfl, .inl ⟨rfl, rfl⟩⟩, fun _ h => (by cases h)⟩
  have hat := heap_alloc_new (w.alloc (.cells (wcells ZW ZW) 54)) (.cells (rcells ZW ZW) 47)
  rw [World.size_alloc] at hat
  refine ⟨(wnew_wire w _ (Nat.le_refl _)).only ((Only.refl (fun _ => False) _).alloc _) (fun _ _ h => h), ⟨hat, by omega, hr _, hr _, by simp [Way.blks, Value.ownBlock], by simp [Way.blks, Value.ownBlock]⟩, ?_⟩
  rintro k (rfl | hk | hk) (h | h | h)
  · omega
  all_goals simp [Way.blks, Value.ownBlock] at *
theorem sim_new : Sim ZW ZW := ⟨rfl, rfl, rfl, rfl⟩
theorem winv_new : WInv 0 ZW := ⟨rfl, by decide, by decide, by decide⟩

/-- All that is known between two acts. -/
structure Here (B : Nat) (t : Nat) (w w' : World) (y z ry rz : Way) : Prop where
  mid : Mid B B 54 (B + 1) 47 w' y z ry rz
  sy : Sim y ry
  sz : Sim z rz
  iy : WInv t y
  iz : WInv t z
  low : Below w.heap.size w w'
theorem Here.below {B t : Nat} {w w1 w2 : World} {y z ry rz : Way} (h : Here B t w w1 y z ry rz) (hb : Below w1.heap.size w1 w2) : Here B t w w2 y z ry rz :=
  ⟨h.mid.below hb, h.sy, h.sz, h.iy, h.iz, h.low.trans (hb.mono h.low.size)⟩
theorem Here.size {B t : Nat} {w w1 : World} {y z ry rz : Way} (h : Here B t w w1 y z ry rz) : B ≤ w1.heap.size := Nat.le_of_lt (block_lt h.mid.wire.at_)

/-- A cell, and it stands behind one new block. -/
def W1C (w1 : World) (b j : Nat) (v : Value) : Prop := w1.cell? ⟨b, j, none⟩ = some v ∧ ∀ o, (w1.alloc o).cell? ⟨b, j, none⟩ = some v

theorem Here.cells0 {B t : Nat} {w w1 : World} {y z ry rz : Way} (h : Here B t w w1 y z ry rz) : ∃ a ca ra rc,
    (∀ W' : World, W'.heap = w1.heap → W'.cell? ⟨B, 3, none⟩ = some (.slice a y.ms.length ca)) ∧ W1C w1 (B + 1) 0 (.slice ra y.ms.length rc) ∧ W1C w1 (B + 1) 2 (.int .i64 y.i) ∧ W1C w1 (B + 1) 3 (.int .i64 y.o) ∧ W1C w1 (B + 1) 4 (.int .i64 y.l) ∧ (∀ o, (w1.alloc o).cell? ⟨B, 3, none⟩ = some (.slice a y.ms.length ca)) := by
  obtain ⟨a, ca, hv, _⟩ := h.mid.wire.ok0.form
  obtain ⟨ra, rc, rv, _⟩ := h.mid.ref.ok0.form
  have hl := h.sy.len
  have hB := block_lt h.mid.wire.at_
  have hM := block_lt h.mid.ref.at_
  have up : ∀ (b j : Nat) (v : Value), b < w1.heap.size → w1.cell? ⟨b, j, none⟩ = some v → W1C w1 b j v := fun b j v hb hc => ⟨hc, fun o => ((Below.alloc (Below.refl w1.heap.size w1) (Nat.le_refl _) o).cell (p := ⟨b, j, none⟩) hb).trans hc⟩
  have c0 : w1.cell? ⟨B, 3, none⟩ = some (.slice a y.ms.length ca) := by rw [h.mid.wire.c]; simp [wcells, hv]
  refine ⟨a, ca, ra, rc, fun W' hW' => ?_, up _ _ _ hM ?_, up _ _ _ hM ?_, up _ _ _ hM ?_, up _ _ _ hM ?_, (up _ _ _ hB c0).2⟩
  · have : W'.cell? ⟨B, 3, none⟩ = w1.cell? ⟨B, 3, none⟩ := World.cell?_of_block (by rw [hW'])
    rw [this, c0]
  · rw [h.mid.ref.c, hl]; simp [rcells, rv]
  · rw [h.mid.ref.c, h.sy.i]; rfl
  · rw [h.mid.ref.c, h.sy.o]; rfl
  · rw [h.mid.ref.c, h.sy.l]; rfl

theorem Here.cells1 {B t : Nat} {w w1 : World} {y z ry rz : Way} (h : Here B t w w1 y z ry rz) : ∃ a ca ra rc,
    (∀ W' : World, W'.heap = w1.heap → W'.cell? ⟨B, 7, none⟩ = some (.slice a z.ms.length ca)) ∧ W1C w1 (B + 1) 1 (.slice ra z.ms.length rc) ∧ W1C w1 (B + 1) 5 (.int .i64 z.i) ∧ W1C w1 (B + 1) 6 (.int .i64 z.o) ∧ W1C w1 (B + 1) 7 (.int .i64 z.l) ∧ (∀ o, (w1.alloc o).cell? ⟨B, 7, none⟩ = some (.slice a z.ms.length ca)) := by
  obtain ⟨a, ca, hv, _⟩ := h.mid.wire.ok1.form
  obtain ⟨ra, rc, rv, _⟩ := h.mid.ref.ok1.form
  have hl := h.sz.len
  have hB := block_lt h.mid.wire.at_
  have hM := block_lt h.mid.ref.at_
  have up : ∀ (b j : Nat) (v : Value), b < w1.heap.size → w1.cell? ⟨b, j, none⟩ = some v → W1C w1 b j v := fun b j v hb hc => ⟨hc, fun o => ((Below.alloc (Below.refl w1.heap.size w1) (Nat.le_refl _) o).cell (p := ⟨b, j, none⟩) hb).trans hc⟩
  have c0 : w1.cell? ⟨B, 7, none⟩ = some (.slice a z.ms.length ca) := by rw [h.mid.wire.c]; simp [wcells, hv]
  refine ⟨a, ca, ra, rc, fun W' hW' => ?_, up _ _ _ hM ?_, up _ _ _ hM ?_, up _ _ _ hM ?_, up _ _ _ hM ?_, (up _ _ _ hB c0).2⟩
  · have : W'.cell? ⟨B, 7, none⟩ = w1.cell? ⟨B, 7, none⟩ := World.cell?_of_block (by rw [hW'])
    rw [this, c0]
  · rw [h.mid.ref.c, hl]; simp [rcells, rv]
  · rw [h.mid.ref.c, h.sz.i]; rfl
  · rw [h.mid.ref.c, h.sz.o]; rfl
  · rw [h.mid.ref.c, h.sz.l]; rfl

set_option maxRecDepth 100000 in
set_option maxHeartbeats 8000000 in
theorem plays_walk24 (a : Option Addr) (c : Nat) (xs : List ActV) (w : World) (hA : ArgA w a xs) (ea : Nat → Addr) (hE : Errs 85 errGs w ea) :
    Calls Tryd.prog 4 #[.slice a xs.length c] w fun x w' => x = .returned (.bool true) ∧ Below w.heap.size w w' := by
  have hge : 12 ≤ w.heap.size := Nat.succ_le_of_lt (World.block_lt_of_cell? w _ (werr20 hE).none_)
  have hal := Lib.hid (alive24_any w)
  replace hA := Lib.hid hA
  replace hE := Lib.hid hE
  obtain ⟨L, hL⟩ : ∃ L, L = xs.length := ⟨_, rfl⟩
  have hlong := Lib.hid (fun W h => long2_any a c xs W h)
  rw [← hL] at hlong ⊢
  replace hL := Lib.hid hL
  have hneq := fun (a b c : Int) (W : World) => count_neq_self a b c W
  have hneq2 := fun (a b c : Int) (W : World) => count_equal a b c W
  have hneq3 := fun (a b c : Int) (W : World) => count_equalIn a b c W
  go_enter Tryd.func4, Tryd.ntmps4
  go_wp2_with fail
  with_reducible refine hal.out.mono ?_
  rintro e1 w1 ⟨rfl, hb1⟩
  clear hal
  replace hb1 := Lib.hid hb1
  go_wp2_with fail
  with_reducible refine (hlong.out _ (hA.out.below hb1.out)).mono ?_
  rintro e2 w2 ⟨r, rfl, hr, hb2⟩
  replace hb2 := Lib.hid (hb1.out.trans (hb2.mono hb1.out.size))
  replace hr := Lib.hid hr
  clear hlong hb1
  cases r
  case true =>
    go_wp2_with fail
    go_ret
    exact ⟨rfl, hb2.out⟩
  obtain ⟨hL2, hall⟩ := hr.out rfl
  replace hall := Lib.hid hall
  clear hr
  go_wp2_with fail
  with_reducible refine (wnew_any w2).mono ?_
  rintro e3 w3 ⟨rfl, hw3⟩
  subst hw3
  have hbz := hb2.out.size
  have hmid0 := mid_new w2
  have hlow0 : Below w.heap.size w ((w2.alloc (.cells (wcells ZW ZW) 54)).alloc (.cells (rcells ZW ZW) 47)) := (hb2.out.alloc hbz _).alloc (by simp; omega) _
  generalize hB : w2.heap.size = B at *
  generalize hW3 : w2.alloc (.cells (wcells ZW ZW) 54) = w3 at *
  have hs3 : w3.heap.size = B + 1 := by rw [← hW3, World.size_alloc, hB]
  replace hB := Lib.hid hB
  replace hW3 := Lib.hid hW3
  have hz : rcells ZW ZW = #[.slice none 0 0, .slice none 0 0, .int .i64 0, .int .i64 0, .int .i64 0, .int .i64 0, .int .i64 0, .int .i64 0] := rfl
  rw [hz] at hmid0 hlow0
  replace hmid0 := Lib.hid hmid0
  replace hlow0 := Lib.hid hlow0
  clear hb2 hz
  go_upto_region 6 with fail
  generalize hw4 : w3.alloc (.cells #[.slice none 0 0, .slice none 0 0, .int .i64 0, .int .i64 0, .int .i64 0, .int .i64 0, .int .i64 0, .int .i64 0] 47) = w4 at *
  have hhere0 := Lib.hid (show Here B 0 w w4 ZW ZW ZW ZW from ⟨hmid0.out, sim_new, sim_new, winv_new, winv_new, hlow0.out⟩)
  replace hw4 := Lib.hid hw4
  clear hmid0 hlow0
  go_wp2_with fail
  refine wp_loopF [(false, 6), (true, 3), (false, 18), (true, 69), (false, 53)] _ [] (fun U wr => ∃ (k : Nat) (y z ry rz : Way), k ≤ L ∧ U 27 = .int .i64 k ∧ Here B k w wr y z ry rz)
    (fun U _ => L - (intOf (U 27)).toNat) ?_ ?_
  · simp only [List.getD_cons_zero, List.getD_cons_succ]
    exact ⟨0, ZW, ZW, ZW, ZW, Nat.zero_le _, rfl, hhere0.out⟩
  · clear hhere0
    intro U wr hrel KK hback l' hl'
    obtain ⟨k, y, z, ry, rz, hk, h27, hh⟩ := hrel
    simp only [fillS, popSeg, cond_true, cond_false, Nat.reduceAdd, h27] at hl'
    subst hl'
    replace h27 := Lib.hid h27
    by_cases hlt : k < L
    · obtain ⟨b, o, rfl, hat0⟩ := hA.out.row k (by rw [← hL.out]; exact hlt)
      have hat := hat0.below hh.low
      have harg0 := hat0.arg
      have hmem : xs[k]'(by rw [← hL.out]; exact hlt) ∈ xs := List.getElem_mem _
      have hlen8 := hall.out _ hmem
      have hlt2 : (k : Int) < L := by omega
      obtain ⟨c0, c1, c2, c3, c4, c5, harg⟩ := hat
      clear hat0 hmem
      generalize xs[k]'(by rw [← hL.out]; exact hlt) = x at *
      have hBr := hh.size
      have hgA : Below wr.heap.size wr (wr.alloc (.cells x.cells 29)) := (Below.refl _ _).alloc (Nat.le_refl _) _
      have hhA := hh.below hgA
      have hdo := do_any B B 54 (B + 1) 47 k y z ry rz _ ea x hhA.mid hhA.sy hhA.sz hhA.iy hhA.iz (by omega) hhA.size (fun w' hb' => hE.out.below (hhA.low.trans (hb'.mono hbz))) (by omega) (fun w' hb' => harg0.below (hhA.low.trans (hb'.mono hbz))) hlen8 (fun h0 b o e => by
        rw [e] at harg0
        have := RowB.lt harg0.row h0
        omega)
      have hlowA := Lib.hid hhA.low
      simp only [ActV.cells] at hdo hlowA
      replace hdo := Lib.hid hdo
      clear harg harg0 hhA hgA hlen8 hh
      go_wp2_with fail
      with_reducible refine hdo.out.mono ?_
      rintro e5 w5 ⟨rfl, ⟨⟨y5, z5, ry5, rz5, hm5, sy5, sz5, iy5, iz5⟩, hlow5⟩⟩
      have hh5 := Lib.hid (show Here B (k + 1) w w5 y5 z5 ry5 rz5 from ⟨hm5, sy5, sz5, iy5, iz5, hlowA.out.trans (hlow5.mono hbz)⟩)
      clear hm5 sy5 sz5 iy5 iz5 hlow5 hlowA hdo c0 c1 c2 c3 c4 c5
      go_wp2_with fail
      refine wp_loop_rounds 5 ?_
      -- no way: -1
      rw [rounds_succ]
      go_wp2_with fail
      with_reducible refine (wcount_bad B (-1) (by decide) (by decide) _).mono ?_
      rintro e6 w6 ⟨rfl, hb⟩
      have hh6 := Lib.hid (hh5.out.below hb)
      clear hb hh5
      go_wp2_with fail
      with_reducible refine (wlen_bad B (-1) (by decide) (by decide) _).mono ?_
      rintro e6 w' ⟨rfl, hq⟩
      subst hq
      have hh6' := Lib.hid (hh6.out.below ((Below.refl w6.heap.size w6).alloc (Nat.le_refl _) (.cells #[.int .i64 0, .int .i64 0, .int .i64 0] 38)))
      clear hh6
      go_wp2_with fail
      rw [rounds_succ]
      go_wp2_with fail
      have hcnt := Lib.hid (wcount0 B y5.i y5.o y5.l _ (hh6'.out.mid.wire.c 0) (hh6'.out.mid.wire.c 1) (hh6'.out.mid.wire.c 2))
      with_reducible refine hcnt.out.mono ?_
      rintro e7 w7 ⟨rfl, hb⟩
      have hh7 := Lib.hid (hh6'.out.below hb)
      clear hb hh6' hcnt
      obtain ⟨a0, ca, ra, rc, p0, ⟨p1, p1'⟩, ⟨p2, p2'⟩, ⟨p3, p3'⟩, ⟨p4, p4'⟩, p5⟩ := hh7.out.cells0
      have hq0 := Lib.hid (fun n => wlen0 B _ _ _ ((w7.alloc (.cells #[.int .i64 y5.i, .int .i64 y5.o, .int .i64 y5.l] 38)).drewN n) (p5 _))
      replace p0 := Lib.hid p0
      replace p5 := Lib.hid p5
      go_wp2_with fail
      go_quiet ((go_at_call 15; exact Calls.quiet_of_same (hq0.out _)))
      go_wp2_with fail
      generalize hW : (w7.alloc (.cells #[.int .i64 y5.i, .int .i64 y5.o, .int .i64 y5.l] 38)).drewN nq = v7
      have hh7' := Lib.hid (show Here B (k + 1) w v7 y5 z5 ry5 rz5 from hW ▸ hh7.out.below (((Below.refl w7.heap.size w7).alloc (Nat.le_refl _) _).trans (Drawn.below ⟨nq, rfl⟩ _)))
      clear hW hh7 hq0 p0 p1 p1' p2 p2' p3 p3' p4 p4' p5
      rw [rounds_succ]
      go_wp2_with fail
      have hcnt := Lib.hid (wcount1 B z5.i z5.o z5.l _ (hh7'.out.mid.wire.c 4) (hh7'.out.mid.wire.c 5) (hh7'.out.mid.wire.c 6))
      with_reducible refine hcnt.out.mono ?_
      rintro e8 w8 ⟨rfl, hb⟩
      have hh8 := Lib.hid (hh7'.out.below hb)
      clear hb hh7' hcnt
      obtain ⟨a0, ca, ra, rc, p0, ⟨p1, p1'⟩, ⟨p2, p2'⟩, ⟨p3, p3'⟩, ⟨p4, p4'⟩, p5⟩ := hh8.out.cells1
      have hq1 := Lib.hid (fun n => wlen1 B _ _ _ ((w8.alloc (.cells #[.int .i64 z5.i, .int .i64 z5.o, .int .i64 z5.l] 38)).drewN n) (p5 _))
      replace p0 := Lib.hid p0
      replace p5 := Lib.hid p5
      go_wp2_with fail
      go_quiet ((go_at_call 15; exact Calls.quiet_of_same (hq1.out _)))
      go_wp2_with fail
      generalize hW : (w8.alloc (.cells #[.int .i64 z5.i, .int .i64 z5.o, .int .i64 z5.l] 38)).drewN nq = v8
      have hh8' := Lib.hid (show Here B (k + 1) w v8 y5 z5 ry5 rz5 from hW ▸ hh8.out.below (((Below.refl w8.heap.size w8).alloc (Nat.le_refl _) _).trans (Drawn.below ⟨nq, rfl⟩ _)))
      clear hW hh8 hq1 p0 p1 p1' p2 p2' p3 p3' p4 p4' p5
      rw [rounds_succ]
      go_wp2_with fail
      with_reducible refine (wcount_bad B (2) (by decide) (by decide) _).mono ?_
      rintro e9 w9 ⟨rfl, hb⟩
      have hh9 := Lib.hid (hh8'.out.below hb)
      clear hb hh8'
      go_wp2_with fail
      with_reducible refine (wlen_bad B (2) (by decide) (by decide) _).mono ?_
      rintro e9 w' ⟨rfl, hq⟩
      subst hq
      have hh9' := Lib.hid (hh9.out.below ((Below.refl w9.heap.size w9).alloc (Nat.le_refl _) (.cells #[.int .i64 0, .int .i64 0, .int .i64 0] 38)))
      clear hh9
      go_wp2_with fail
      rw [rounds_succ]
      go_wp2_with fail
      refine hback.out _ _ (by kernel_rfl) ?_ ?_
      · simp only [List.getD_cons_zero, List.getD_cons_succ]
        exact ⟨k + 1, y5, z5, ry5, rz5, by omega, by go_num, hh9'.out⟩
      · have h27 := h27.out
        simp only [List.getD_cons_zero, List.getD_cons_succ, h27, intOf]
        omega
    · obtain rfl : k = L := by omega
      replace hh := Lib.hid hh
      have hh0 := hh
      clear hh
      go_wp2_with fail
      refine wp_loop_rounds 3 ?_
      -- the rows of way 0
      rw [rounds_succ]
      have hM1 := hh0.out.mid.ref.c 0
      obtain ⟨ra0, rc0, rv0, _, _, _, _⟩ := hh0.out.mid.ref.ok0.form
      have hln0 := hh0.out.sy.len
      have hm064 := hh0.out.iy.m
      simp only [rcells, rv0, ← hln0] at hM1
      have hMc1 : wr.cell? ⟨B + 1, 0, none⟩ = some (.slice ra0 y.ms.length rc0) := hM1
      replace rv0 := Lib.hid rv0
      replace hln0 := Lib.hid hln0
      clear hM1
      go_wp2_with fail
      refine wp_loopF [(false, 10), (true, 4), (false, 93), (true, 22), (false, 20)] _ [] (fun V wq => ∃ j : Nat, j ≤ y.ms.length ∧ V 107 = .int .i64 j ∧ Here B k w wq y z ry rz)
        (fun V _ => y.ms.length - (intOf (V 107)).toNat) ?_ ?_
      · simp only [List.getD_cons_zero, List.getD_cons_succ]
        exact ⟨0, Nat.zero_le _, rfl, hh0.out⟩
      clear hh0 hMc1
      intro V0 wr2 hrel K01 hbk0 l0 hl0
      obtain ⟨j, hj, hv107, hh1⟩ := hrel
      simp only [fillS, popSeg, cond_true, cond_false, Nat.reduceAdd, hv107] at hl0
      subst hl0
      replace hv107 := Lib.hid hv107
      by_cases hjl : j < y.ms.length
      · have hjl2 : (j : Int) < y.ms.length := by omega
        have hjr : j < ry.ms.length := by have := hln0.out; omega
        obtain ⟨rg, rcc, rvv⟩ := hh1.mid.ref.ok0.form1 (by omega)
        have hre : ra0 = some ⟨rg, 0, none⟩ := by
          have h1 := rv0.out.symm.trans rvv
          injection h1
        subst hre
        have hcell := hh1.mid.ref.ok0.cell rvv j hjr
        have hown := (hh1.mid.ref.ok0.msg _ (List.getElem_mem hjr)).2.2
        have hbs := hh1.sy.at_ j hjl hjr
        have hpk := Lib.hid (wpeek0 B B j _ y z _ hh1.mid.wire hjl)
        replace hh1 := Lib.hid hh1
        clear rvv
        generalize (ry.ms[j]'hjr) = m at *
        obtain ⟨mb, mc, mbs⟩ := m
        simp only [encM] at hcell hown hbs
        subst hbs
        replace hown := Lib.hid hown
        go_wp2_with fail
        with_reducible refine hpk.out.mono ?_
        rintro e w' ⟨g1, c1, rfl, ha1, hb1⟩
        have hh9 := Lib.hid (hh1.out.below hb1)
        have ha2 := argB_own ((Only.ofBelow (D := fun _ => False) hb1).owns hown.out (fun _ _ h => h))
        have kc1 := conv_str (P := Tryd.prog) (src := 27) (dst := 9) (c := c1) (y.ms[j]).bs Tryd.underlying27 Tryd.underlying5 Tryd.underlying9 ha1.row
        have kc2 := conv_str (P := Tryd.prog) (src := 27) (dst := 9) (c := mc) (y.ms[j]).bs Tryd.underlying27 Tryd.underlying5 Tryd.underlying9 ha2.row
        clear hpk hb1 ha1 ha2 hown hh1 hcell
        generalize (⟨(y.ms[j]).bs.toArray⟩ : ByteArray) = sv at *
        go_wp2_with fail
        refine hbk0.out _ _ (by kernel_rfl) ?_ ?_
        · simp only [List.getD_cons_zero, List.getD_cons_succ]
          exact ⟨j + 1, by omega, by go_num, hh9.out⟩
        · have hv107 := hv107.out
          simp only [List.getD_cons_zero, List.getD_cons_succ, hv107, intOf]
          omega
      obtain rfl : j = y.ms.length := by omega
      replace hh1 := Lib.hid hh1
      clear hbk0
      go_wp2_with fail
      -- the rows of way 1
      rw [rounds_succ]
      have hM2 := hh1.out.mid.ref.c 1
      obtain ⟨ra1, rc1, rv1, _, _, _, _⟩ := hh1.out.mid.ref.ok1.form
      have hln1 := hh1.out.sz.len
      have hm164 := hh1.out.iz.m
      simp only [rcells, rv1, ← hln1] at hM2
      have hMc2 : wr2.cell? ⟨B + 1, 1, none⟩ = some (.slice ra1 z.ms.length rc1) := hM2
      replace rv1 := Lib.hid rv1
      replace hln1 := Lib.hid hln1
      clear hM2
      go_wp2_with fail
      refine wp_loopF [(false, 10), (true, 4), (false, 93), (true, 22), (false, 20)] _ [] (fun V wq => ∃ j : Nat, j ≤ z.ms.length ∧ V 107 = .int .i64 j ∧ Here B k w wq y z ry rz)
        (fun V _ => z.ms.length - (intOf (V 107)).toNat) ?_ ?_
      · simp only [List.getD_cons_zero, List.getD_cons_succ]
        exact ⟨0, Nat.zero_le _, rfl, hh1.out⟩
      clear hh1 hMc2
      intro V1 wr3 hrel K11 hbk1 l1 hl1
      obtain ⟨j, hj, hv107, hh2⟩ := hrel
      simp only [fillS, popSeg, cond_true, cond_false, Nat.reduceAdd, hv107] at hl1
      subst hl1
      replace hv107 := Lib.hid hv107
      by_cases hjl : j < z.ms.length
      · have hjl2 : (j : Int) < z.ms.length := by omega
        have hjr : j < rz.ms.length := by have := hln1.out; omega
        obtain ⟨rg, rcc, rvv⟩ := hh2.mid.ref.ok1.form1 (by omega)
        have hre : ra1 = some ⟨rg, 0, none⟩ := by
          have h1 := rv1.out.symm.trans rvv
          injection h1
        subst hre
        have hcell := hh2.mid.ref.ok1.cell rvv j hjr
        have hown := (hh2.mid.ref.ok1.msg _ (List.getElem_mem hjr)).2.2
        have hbs := hh2.sz.at_ j hjl hjr
        have hpk := Lib.hid (wpeek1 B B j _ y z _ hh2.mid.wire hjl)
        replace hh2 := Lib.hid hh2
        clear rvv
        generalize (rz.ms[j]'hjr) = m at *
        obtain ⟨mb, mc, mbs⟩ := m
        simp only [encM] at hcell hown hbs
        subst hbs
        replace hown := Lib.hid hown
        go_wp2_with fail
        with_reducible refine hpk.out.mono ?_
        rintro e w' ⟨g1, c1, rfl, ha1, hb1⟩
        have hh9 := Lib.hid (hh2.out.below hb1)
        have ha2 := argB_own ((Only.ofBelow (D := fun _ => False) hb1).owns hown.out (fun _ _ h => h))
        have kc1 := conv_str (P := Tryd.prog) (src := 27) (dst := 9) (c := c1) (z.ms[j]).bs Tryd.underlying27 Tryd.underlying5 Tryd.underlying9 ha1.row
        have kc2 := conv_str (P := Tryd.prog) (src := 27) (dst := 9) (c := mc) (z.ms[j]).bs Tryd.underlying27 Tryd.underlying5 Tryd.underlying9 ha2.row
        clear hpk hb1 ha1 ha2 hown hh2 hcell
        generalize (⟨(z.ms[j]).bs.toArray⟩ : ByteArray) = sv at *
        go_wp2_with fail
        refine hbk1.out _ _ (by kernel_rfl) ?_ ?_
        · simp only [List.getD_cons_zero, List.getD_cons_succ]
          exact ⟨j + 1, by omega, by go_num, hh9.out⟩
        · have hv107 := hv107.out
          simp only [List.getD_cons_zero, List.getD_cons_succ, hv107, intOf]
          omega
      obtain rfl : j = z.ms.length := by omega
      replace hh2 := Lib.hid hh2
      clear hbk1
      go_wp2_with fail
      rw [rounds_succ]
      go_wp2_with fail
      have hEw := hE.out.below hh2.out.low
      have hpb : Calls Tryd.prog 17 #[.pointer (some ⟨B, 0, none⟩), .int .i64 2, .int .i64 0] wr3 fun x w' => x = .returned (.tuple #[.slice none 0 0, .iface 85 (.pointer (some (ea 6)))]) ∧ Drawn wr3 w' := wpeek_bad B 2 0 (by decide) (by decide) wr3 _ (werr20 hEw)
      clear hEw
      with_reducible refine hpb.mono ?_
      rintro e w5 ⟨rfl, hd5⟩
      have hh5 := Lib.hid (hh2.out.below (hd5.below _))
      clear hd5 hpb hh2
      obtain ⟨a0, ca, ra, rc, p0, _⟩ := hh5.out.cells0
      have hle0 := Lib.hid (wlen0 B _ _ _ w5 (p0 w5 rfl))
      have hpn : Calls Tryd.prog 17 #[.pointer (some ⟨B, 0, none⟩), .int .i64 0, .int .i64 (y.ms.length : Int)] w5 fun x w' => x = .returned (.tuple #[.slice none 0 0, .iface 85 (.pointer (some (ea 10)))]) ∧ Drawn w5 w' := wpeek_no0 B y.ms.length _ _ _ w5 (p0 w5 rfl) (.inr (Int.le_refl _)) _ (werr20 (hE.out.below hh5.out.low))
      replace hpn := Lib.hid hpn
      clear p0
      go_wp2_with fail
      with_reducible refine hle0.out.mono ?_
      rintro e w' ⟨rfl, hq⟩
      obtain rfl := hq.symm
      clear hq hle0
      go_wp2_with fail
      with_reducible refine hpn.out.mono ?_
      rintro e w6 ⟨rfl, hd6⟩
      have hh6 := Lib.hid (hh5.out.below (hd6.below _))
      clear hd6 hpn hh5
      have hn1 : Calls Tryd.prog 18 #[.iface 85 (.pointer (some (ea 6)))] w6 fun e w' => e = .returned (.int .i64 7) ∧ Below w6.heap.size w6 w' := num_err 6 (by decide) ea w6 (hE.out.below hh6.out.low)
      replace hn1 := Lib.hid hn1
      go_wp2_with fail
      with_reducible refine hn1.out.mono ?_
      rintro e w7 ⟨rfl, hb7⟩
      have hh7 := Lib.hid (hh6.out.below hb7)
      clear hn1 hb7 hh6
      have hn2 : Calls Tryd.prog 18 #[.iface 85 (.pointer (some (ea 10)))] w7 fun e w' => e = .returned (.int .i64 11) ∧ Below w7.heap.size w7 w' := num_err 10 (by decide) ea w7 (hE.out.below hh7.out.low)
      replace hn2 := Lib.hid hn2
      go_wp2_with fail
      with_reducible refine hn2.out.mono ?_
      rintro e w8 ⟨rfl, hb8⟩
      have hh8 := Lib.hid (hh7.out.below hb8)
      clear hn2 hb8 hh7
      go_wp2_with fail
      go_ret
      exact ⟨rfl, hh8.out.low⟩
end Go.Proofs.YtejkajlbffkdnaaDoor
