/- Walks over the reference's wire: Bend. (Printed by n24/on/genref2.py.) -/
import Derived.Test.YtejkajlbffkdnaaDoorRef24
import Derived.Test.YtejkajlbffkdnaaDoorWire3
import Derived.Deep.CutRange
namespace Go.Proofs.YtejkajlbffkdnaaDoor
open Go.RowKit


set_option maxRecDepth 100000 in
set_option maxHeartbeats 8000000 in
theorem rbend0 (base M i : Nat) (at_ : Int) (by_ : UInt8) (T : TypeId) (y z : Way) (w : World) (h : RefW base w M T y z) (hb : base ≤ w.heap.size) (hl : y.ms.length ≤ 1000) (hi : i < y.ms.length) :
    Calls Tryd.prog 29 #[.pointer (some ⟨M, 0, none⟩), .int .i64 0, .int .i64 i, .int .i64 at_, .int .u8 (by_.toNat : Int)] w fun x w' => x = .returned (.int .i64 0) ∧ ∃ x' m', RStep base w w' M T y z x' z ∧ x'.i = y.i ∧ x'.o = y.o ∧ x'.l = y.l ∧ x'.ms = y.ms.set i m' ∧ m'.bs = (y.ms[i]).bs.set (bendAt at_ (y.ms[i]).bs.length) (cf (y.ms[i]).bs (bendAt at_ (y.ms[i]).bs.length) ^^^ by_) := by
  have hok := h.ok0
  have hn := h.n0
  obtain ⟨g, cap, hv⟩ := hok.form1 (by omega)
  have hat := h.at_
  have hMl := block_lt hat
  obtain ⟨iR, hR0, hR1, hR2, hR3⟩ := info_parts Tryd.infoRowW
  have hcv : w.cell? ⟨M, 0, none⟩ = some (.slice (some ⟨g, 0, none⟩) y.ms.length cap) := by rw [h.c]; simp [rcells, hv]
  have hcm : w.cell? ⟨g, i, none⟩ = some (.slice (some ⟨(y.ms[i]).b, 0, none⟩) (y.ms[i]).bs.length (y.ms[i]).cap) := hok.cell hv i hi
  have hgl : g < w.heap.size := World.block_lt_of_cell? w _ hcm
  have hth := Lib.hid (rthere_yes0 M i _ _ _ w hcv hi)
  have hown := hok.own
  rw [hv] at hown
  have hsrc : At w (some ⟨g, 0, none⟩) (y.ms.map encM) := owns_at hown
  obtain ⟨k1, k2, k3⟩ := hok.msg _ (List.getElem_mem hi)
  generalize hmm : y.ms[i] = m at *
  obtain ⟨mb, mc, bs⟩ := m
  simp only [encM] at k1 k2 k3 hcm
  have ham : ArgB w (some ⟨mb, 0, none⟩) mc bs := by
    obtain ⟨a3, c3, e3, ha3, _⟩ := OwnB.arg k3
    cases e3
    exact ha3
  have hcvA : (w.alloc (.cells #[] 5)).cell? ⟨M, 0, none⟩ = some (.slice (some ⟨g, 0, none⟩) y.ms.length cap) := ((Below.alloc (Below.refl w.heap.size w) (Nat.le_refl _) _).cell (p := ⟨M, 0, none⟩) hMl).trans hcv
  have hcmA : (w.alloc (.cells #[] 5)).cell? ⟨g, i, none⟩ = some (.slice (some ⟨mb, 0, none⟩) bs.length mc) := ((Below.alloc (Below.refl w.heap.size w) (Nat.le_refl _) _).cell (p := ⟨g, i, none⟩) hgl).trans hcm
  have oL := Lib.hid (show OwnB w.heap.size (w.alloc (.cells #[] 5)) (.slice (some ⟨w.heap.size, 0, none⟩) 0 0) [] from lit_own w 5)
  have aL := Lib.hid (ham.below (Below.alloc (Below.refl w.heap.size w) (Nat.le_refl _) (.cells #[] 5)))
  have hx := xor_b8 (cf bs (bendAt at_ bs.length)) by_
  have hin : (i : Int) < y.ms.length := by omega
  have hml := Lib.hid (show (y.ms.map encM).length = y.ms.length from List.length_map ..)
  have hone := encM_one y.ms
  have hnil : Hid ((some ⟨g, 0, none⟩ : Option Addr) = none → cap = 0) := Lib.hid (fun e => by cases e)
  have hq1 : 0 + y.ms.length ≤ maxLen := by unfold maxLen; omega
  have hq2 : (0 + y.ms.length) * 24 ≤ 140737488355328 := by omega
  replace h := Lib.hid h
  replace hat := Lib.hid hat
  replace hv := Lib.hid hv
  replace hok := Lib.hid hok
  replace hn := Lib.hid hn
  replace hsrc := Lib.hid hsrc
  replace hmm := Lib.hid hmm
  have hlen0 := Lib.hid (And.intro k1 k2)
  clear hown ham k3
  obtain ⟨L, hL⟩ : ∃ L, L = bs.length := ⟨_, rfl⟩
  rw [← hL] at hx k1 k2 hcm hcmA ⊢
  have hne : ¬ ((L : Int) = 0) := by omega
  have htl : -(L : Int) < at_.tmod L ∧ at_.tmod L < L := ⟨by have := Int.lt_tmod_of_pos at_ (show (0 : Int) < L by omega); omega, Int.tmod_lt_of_pos at_ (by omega)⟩
  have hwt : IntKind.i64.wrap (at_.tmod L) = at_.tmod L := IntWalk.i64_in _ (by omega)
  have hkk : bendAt at_ L < L ∧ (if at_.tmod L < 0 then at_.tmod L + L = (bendAt at_ L : Int) else at_.tmod L = (bendAt at_ L : Int)) := by
    by_cases hn : at_.tmod L < 0
    · unfold bendAt; rw [if_pos hn, if_pos hn]; omega
    · unfold bendAt; rw [if_neg hn, if_neg hn]; omega
  obtain ⟨hk1, hk2⟩ := hkk
  have hk3 : (bendAt at_ L : Int) < L := by omega
  have hk0 : ¬ ((bendAt at_ L : Int) < 0) := by omega
  have hsgn : (at_.tmod L < 0 ∧ IntKind.i64.wrap (at_.tmod L + L) = (bendAt at_ L : Int)) ∨ (¬ at_.tmod L < 0 ∧ at_.tmod L = (bendAt at_ L : Int)) := by
    by_cases hn : at_.tmod L < 0
    · rw [if_pos hn] at hk2
      exact .inl ⟨hn, by rw [hk2]; exact IntWalk.i64_in _ (by omega)⟩
    · rw [if_neg hn] at hk2
      exact .inr ⟨hn, hk2⟩
  replace hL := Lib.hid hL
  clear hk2 htl k1 k2
  generalize hkq : bendAt at_ L = k at *
  replace hkq := Lib.hid hkq
  generalize hcq : cf bs k ^^^ by_ = c1 at *
  replace hcq := Lib.hid hcq
  replace hx := Lib.hid hx
  rcases hsgn with ⟨hneg, hwa⟩ | ⟨hneg, hwa⟩
  · go_enter Tryd.func29, Tryd.ntmps29
    go_wp2_with fail
    with_reducible refine hth.out.mono ?_
    rintro x w2 ⟨rfl, hq⟩
    obtain rfl := hq
    clear hth
    go_wp2_with (at_builtin; go_must (refine wpB_app rfl (.tmp 21) (.tmp 30) rfl w.heap.size _ [] rfl oL (some ⟨mb, 0, none⟩) mc bs L rfl (Lib.hid hL.out.symm) aL (by simp) (by have := hlen0.out; have := hL.out; omega) (by simp) ?_))
    intro v1 w1 ho1 hb1
    have gw1 := Lib.hid ((Below.alloc (Below.refl w.heap.size w) (Nat.le_refl _) (.cells #[] 5)).trans hb1.out)
    obtain ⟨g1, c1', hv1, ho1'⟩ := bytes_form2 ho1.out hlen0.out.1
    subst hv1
    rw [← hL.out]
    have hb1c : w1.cell? ⟨g1, k, none⟩ = some (.int .u8 ((cf bs k).toNat : Int)) := OwnB.cell ho1' rfl (by have := hL.out; omega)
    have hb1f : w1.frozen? ⟨g1, k, none⟩ = false := OwnB.free ho1' rfl _
    have hg1l := World.ownsRow.lt ho1' g1 rfl
    replace ho1' := Lib.hid ho1'
    clear oL aL hcvA hcmA ho1 hb1
    go_upto_region 9 with fail
    rw [hx.out]
    generalize hw2 : w1.setCell ⟨g1, k, none⟩ (.int .u8 (c1.toNat : Int)) = w2
    have ho2 : OwnB w.heap.size w2 (.slice (some ⟨g1, 0, none⟩) L c1') (bs.set k c1) := by rw [← hw2, hL.out]; exact OwnB.set ho1'.out rfl k c1
    have gw2 : Below w.heap.size w w2 := by rw [← hw2]; exact gw1.out.setCell hg1l.1 _
    have hs2 : w2.heap.size = w1.heap.size := by rw [← hw2]; simp [World.setCell]
    have hg1b : g1 < w2.heap.size := by rw [hs2]; exact hg1l.2
    have hsw2 := gw2.size
    have hcv2 : (w2.alloc (.cells #[] 27)).cell? ⟨M, 0, none⟩ = some (.slice (some ⟨g, 0, none⟩) y.ms.length cap) := ((gw2.alloc hsw2 _).cell (p := ⟨M, 0, none⟩) hMl).trans hcv
    have oR := Lib.hid (lit_own w2 27)
    have tR := Lib.hid (At.below hsrc.out (gw2.alloc hsw2 (.cells #[] 27)))
    replace gw2 := Lib.hid gw2
    replace ho2 := Lib.hid ho2
    replace hw2 := Lib.hid hw2
    replace hs2 := Lib.hid hs2
    clear hcv hcm hb1c hb1f gw1 ho1'
    go_wp2_with (at_builtin; go_must (refine wpList_app rfl (.tmp 51) (.tmp 57) 42 rfl w2.heap.size 27 iR (.slice none 0 0) 24 Tryd.underlying42 hR0 hR1 hR2 hR3 rfl _ 0 [] rfl oR (some ⟨g, 0, none⟩) y.ms.length cap (y.ms.map encM) rfl hml tR hnil hone hq1 hq2 (by simp) ?_))
    intro v3 w3 ho3 hg3
    have ho3' : w3.ownsRow w2.heap.size 27 1 v3 y.ms.length (y.ms.map encM) := by simpa using ho3.out
    obtain ⟨g3, c3, hv3⟩ := owns_pos ho3' (by omega)
    subst hv3
    have hg3l := World.ownsRow.lt ho3' g3 rfl
    have hc3i : w3.cell? ⟨g3, i, none⟩ = some (encM y.ms[i]) := by rw [World.ownsRow.cellAt ho3' i (by simp; omega)]; simp [hi]
    simp only [encM] at hc3i
    have hf3i : w3.frozen? ⟨g3, i, none⟩ = false := World.ownsRow.frozenAt ho3' i
    have gw3 : Below w.heap.size w w3 := (gw2.out.alloc hsw2 _).grown hg3.out (by simp; omega) (fun k hk => by have := (World.ownsRow.lt oR.out k hk).1; omega)
    have hat3 := (gw3.block M hMl).trans hat.out
    have hM3 : ¬ M = g3 := by omega
    have hM3' : ¬ g3 = M := by omega
    have hcv3 : w3.cell? ⟨M, 0, none⟩ = some (.slice (some ⟨g, 0, none⟩) y.ms.length cap) := by rw [cell_of_block hat3]; simp [rcells, hv.out]
    have hfv3 : w3.frozen? ⟨M, 0, none⟩ = false := free_of_block hat3 _
    have hO23 : Only (fun j => w2.heap.size ≤ j) w2 w3 := (Only.ofBelow (D := fun j => w2.heap.size ≤ j) (Below.alloc (Below.refl _ _) (Nat.le_refl _) _)).trans (Only.ofGrown (D := fun j => w2.heap.size ≤ j) hg3.out (fun k hk => (World.ownsRow.lt oR.out k hk).1)) fun _ _ h => h
    replace ho3' := Lib.hid ho3'
    replace gw3 := Lib.hid gw3
    replace hat3 := Lib.hid hat3
    replace hO23 := Lib.hid hO23
    clear hcv2 oR tR ho3 hg3
    go_wp2_with fail
    go_ret
    have hset := (World.ownsRow.stored ho3'.out i (.slice (some ⟨g1, 0, none⟩) L c1')).1
    have hat4 : (w3.setCell ⟨g3, i, none⟩ (.slice (some ⟨g1, 0, none⟩) L c1')).heap[M]? = some (.cells (rcells y z) T (0, 0)) := (Below.heap_setCell _ _ _ _ hM3).trans hat3.out
    have hU5 := (Upd.refl hat4).setCell (j := 0) (.slice (some ⟨g3, 0, none⟩) y.ms.length c3)
    have hO45 : Only (fun j => j = M) (w3.setCell ⟨g3, i, none⟩ (.slice (some ⟨g1, 0, none⟩) L c1')) _ := Only.ofUpd hU5 rfl
    have hO34 : Only (fun j => w2.heap.size ≤ j) w3 (w3.setCell ⟨g3, i, none⟩ (.slice (some ⟨g1, 0, none⟩) L c1')) := (Only.refl _ w3).setCell _ _ fun _ => hg3l.1
    have hO25 := ((hO23.out.trans hO34 fun _ _ h => h).mono (E := fun j => w2.heap.size ≤ j ∨ j = M) fun _ _ h => .inl h).trans hO45 fun _ _ h => .inr h
    have hO5 : Only (fun j => j = M) w _ := ((Only.ofBelow (D := fun j => w.heap.size ≤ j) gw3.out).trans hO34 (fun _ _ h => by omega) |>.mono (E := fun j => j = M) (fun _ h1 h2 => absurd h1 (by omega))).trans hO45 fun _ _ h => h
    have hrow := hO45.owns hset fun k hk e => by have := (World.ownsRow.lt hset k hk).1; omega
    have hbytes := hO25.owns ho2.out fun k hk e => by
      obtain rfl : g1 = k := by simpa [Value.ownBlock] using hk
      omega
    have hLs : (bs.set k c1).length = L := by rw [List.length_set]; exact hL.out.symm
    have hnew := rrow_ok h.out hok.out hn.out hb hO5 (v' := .slice (some ⟨g3, 0, none⟩) y.ms.length c3) (ms' := y.ms.set i ⟨g1, c1', bs.set k c1⟩) (by
      have h1 : (y.ms.set i ⟨g1, c1', bs.set k c1⟩).map encM = (y.ms.map encM).set i (.slice (some ⟨g1, 0, none⟩) L c1') := by rw [List.map_set]; simp only [encM, hLs]
      rw [h1, List.length_set]
      exact owns_mono hrow hsw2) (fun m' hm' => by
      rcases List.mem_or_eq_of_mem_set hm' with hm' | rfl
      · exact .inl hm'
      · refine .inr ⟨?_, ?_, ?_⟩
        · show 0 < (bs.set k c1).length
          have := hlen0.out; rw [List.length_set]; omega
        · show (bs.set k c1).length ≤ 8000
          have := hlen0.out; rw [List.length_set]; omega
        · show OwnB w.heap.size _ (.slice (some ⟨g1, 0, none⟩) (bs.set k c1).length c1') (bs.set k c1)
          rw [hLs]; exact hbytes) y.i y.o y.l
    refine ⟨rfl, _, ⟨g1, c1', bs.set k c1⟩, RStep.of0 h.out hO5 hnew (hU5.to rfl).here, rfl, rfl, rfl, rfl, ?_⟩
    rfl
  · go_enter Tryd.func29, Tryd.ntmps29
    go_wp2_with fail
    with_reducible refine hth.out.mono ?_
    rintro x w2 ⟨rfl, hq⟩
    obtain rfl := hq
    clear hth
    go_wp2_with (at_builtin; go_must (refine wpB_app rfl (.tmp 21) (.tmp 30) rfl w.heap.size _ [] rfl oL (some ⟨mb, 0, none⟩) mc bs L rfl (Lib.hid hL.out.symm) aL (by simp) (by have := hlen0.out; have := hL.out; omega) (by simp) ?_))
    intro v1 w1 ho1 hb1
    have gw1 := Lib.hid ((Below.alloc (Below.refl w.heap.size w) (Nat.le_refl _) (.cells #[] 5)).trans hb1.out)
    obtain ⟨g1, c1', hv1, ho1'⟩ := bytes_form2 ho1.out hlen0.out.1
    subst hv1
    rw [← hL.out]
    have hb1c : w1.cell? ⟨g1, k, none⟩ = some (.int .u8 ((cf bs k).toNat : Int)) := OwnB.cell ho1' rfl (by have := hL.out; omega)
    have hb1f : w1.frozen? ⟨g1, k, none⟩ = false := OwnB.free ho1' rfl _
    have hg1l := World.ownsRow.lt ho1' g1 rfl
    replace ho1' := Lib.hid ho1'
    clear oL aL hcvA hcmA ho1 hb1
    go_upto_region 9 with fail
    rw [hx.out]
    generalize hw2 : w1.setCell ⟨g1, k, none⟩ (.int .u8 (c1.toNat : Int)) = w2
    have ho2 : OwnB w.heap.size w2 (.slice (some ⟨g1, 0, none⟩) L c1') (bs.set k c1) := by rw [← hw2, hL.out]; exact OwnB.set ho1'.out rfl k c1
    have gw2 : Below w.heap.size w w2 := by rw [← hw2]; exact gw1.out.setCell hg1l.1 _
    have hs2 : w2.heap.size = w1.heap.size := by rw [← hw2]; simp [World.setCell]
    have hg1b : g1 < w2.heap.size := by rw [hs2]; exact hg1l.2
    have hsw2 := gw2.size
    have hcv2 : (w2.alloc (.cells #[] 27)).cell? ⟨M, 0, none⟩ = some (.slice (some ⟨g, 0, none⟩) y.ms.length cap) := ((gw2.alloc hsw2 _).cell (p := ⟨M, 0, none⟩) hMl).trans hcv
    have oR := Lib.hid (lit_own w2 27)
    have tR := Lib.hid (At.below hsrc.out (gw2.alloc hsw2 (.cells #[] 27)))
    replace gw2 := Lib.hid gw2
    replace ho2 := Lib.hid ho2
    replace hw2 := Lib.hid hw2
    replace hs2 := Lib.hid hs2
    clear hcv hcm hb1c hb1f gw1 ho1'
    go_wp2_with (at_builtin; go_must (refine wpList_app rfl (.tmp 51) (.tmp 57) 42 rfl w2.heap.size 27 iR (.slice none 0 0) 24 Tryd.underlying42 hR0 hR1 hR2 hR3 rfl _ 0 [] rfl oR (some ⟨g, 0, none⟩) y.ms.length cap (y.ms.map encM) rfl hml tR hnil hone hq1 hq2 (by simp) ?_))
    intro v3 w3 ho3 hg3
    have ho3' : w3.ownsRow w2.heap.size 27 1 v3 y.ms.length (y.ms.map encM) := by simpa using ho3.out
    obtain ⟨g3, c3, hv3⟩ := owns_pos ho3' (by omega)
    subst hv3
    have hg3l := World.ownsRow.lt ho3' g3 rfl
    have hc3i : w3.cell? ⟨g3, i, none⟩ = some (encM y.ms[i]) := by rw [World.ownsRow.cellAt ho3' i (by simp; omega)]; simp [hi]
    simp only [encM] at hc3i
    have hf3i : w3.frozen? ⟨g3, i, none⟩ = false := World.ownsRow.frozenAt ho3' i
    have gw3 : Below w.heap.size w w3 := (gw2.out.alloc hsw2 _).grown hg3.out (by simp; omega) (fun k hk => by have := (World.ownsRow.lt oR.out k hk).1; omega)
    have hat3 := (gw3.block M hMl).trans hat.out
    have hM3 : ¬ M = g3 := by omega
    have hM3' : ¬ g3 = M := by omega
    have hcv3 : w3.cell? ⟨M, 0, none⟩ = some (.slice (some ⟨g, 0, none⟩) y.ms.length cap) := by rw [cell_of_block hat3]; simp [rcells, hv.out]
    have hfv3 : w3.frozen? ⟨M, 0, none⟩ = false := free_of_block hat3 _
    have hO23 : Only (fun j => w2.heap.size ≤ j) w2 w3 := (Only.ofBelow (D := fun j => w2.heap.size ≤ j) (Below.alloc (Below.refl _ _) (Nat.le_refl _) _)).trans (Only.ofGrown (D := fun j => w2.heap.size ≤ j) hg3.out (fun k hk => (World.ownsRow.lt oR.out k hk).1)) fun _ _ h => h
    replace ho3' := Lib.hid ho3'
    replace gw3 := Lib.hid gw3
    replace hat3 := Lib.hid hat3
    replace hO23 := Lib.hid hO23
    clear hcv2 oR tR ho3 hg3
    go_wp2_with fail
    go_ret
    have hset := (World.ownsRow.stored ho3'.out i (.slice (some ⟨g1, 0, none⟩) L c1')).1
    have hat4 : (w3.setCell ⟨g3, i, none⟩ (.slice (some ⟨g1, 0, none⟩) L c1')).heap[M]? = some (.cells (rcells y z) T (0, 0)) := (Below.heap_setCell _ _ _ _ hM3).trans hat3.out
    have hU5 := (Upd.refl hat4).setCell (j := 0) (.slice (some ⟨g3, 0, none⟩) y.ms.length c3)
    have hO45 : Only (fun j => j = M) (w3.setCell ⟨g3, i, none⟩ (.slice (some ⟨g1, 0, none⟩) L c1')) _ := Only.ofUpd hU5 rfl
    have hO34 : Only (fun j => w2.heap.size ≤ j) w3 (w3.setCell ⟨g3, i, none⟩ (.slice (some ⟨g1, 0, none⟩) L c1')) := (Only.refl _ w3).setCell _ _ fun _ => hg3l.1
    have hO25 := ((hO23.out.trans hO34 fun _ _ h => h).mono (E := fun j => w2.heap.size ≤ j ∨ j = M) fun _ _ h => .inl h).trans hO45 fun _ _ h => .inr h
    have hO5 : Only (fun j => j = M) w _ := ((Only.ofBelow (D := fun j => w.heap.size ≤ j) gw3.out).trans hO34 (fun _ _ h => by omega) |>.mono (E := fun j => j = M) (fun _ h1 h2 => absurd h1 (by omega))).trans hO45 fun _ _ h => h
    have hrow := hO45.owns hset fun k hk e => by have := (World.ownsRow.lt hset k hk).1; omega
    have hbytes := hO25.owns ho2.out fun k hk e => by
      obtain rfl : g1 = k := by simpa [Value.ownBlock] using hk
      omega
    have hLs : (bs.set k c1).length = L := by rw [List.length_set]; exact hL.out.symm
    have hnew := rrow_ok h.out hok.out hn.out hb hO5 (v' := .slice (some ⟨g3, 0, none⟩) y.ms.length c3) (ms' := y.ms.set i ⟨g1, c1', bs.set k c1⟩) (by
      have h1 : (y.ms.set i ⟨g1, c1', bs.set k c1⟩).map encM = (y.ms.map encM).set i (.slice (some ⟨g1, 0, none⟩) L c1') := by rw [List.map_set]; simp only [encM, hLs]
      rw [h1, List.length_set]
      exact owns_mono hrow hsw2) (fun m' hm' => by
      rcases List.mem_or_eq_of_mem_set hm' with hm' | rfl
      · exact .inl hm'
      · refine .inr ⟨?_, ?_, ?_⟩
        · show 0 < (bs.set k c1).length
          have := hlen0.out; rw [List.length_set]; omega
        · show (bs.set k c1).length ≤ 8000
          have := hlen0.out; rw [List.length_set]; omega
        · show OwnB w.heap.size _ (.slice (some ⟨g1, 0, none⟩) (bs.set k c1).length c1') (bs.set k c1)
          rw [hLs]; exact hbytes) y.i y.o y.l
    refine ⟨rfl, _, ⟨g1, c1', bs.set k c1⟩, RStep.of0 h.out hO5 hnew (hU5.to rfl).here, rfl, rfl, rfl, rfl, ?_⟩
    rfl

end Go.Proofs.YtejkajlbffkdnaaDoor
