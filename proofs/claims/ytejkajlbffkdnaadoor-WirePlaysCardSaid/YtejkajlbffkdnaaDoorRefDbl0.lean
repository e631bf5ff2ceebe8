/- Walks over the reference's wire: Double. (Printed by n24/on/genref2.py.) -/
import Derived.Test.YtejkajlbffkdnaaDoorRef24
import Derived.Test.YtejkajlbffkdnaaDoorWire3
import Derived.Deep.CutRange
namespace Go.Proofs.YtejkajlbffkdnaaDoor
open Go.RowKit


set_option maxHeartbeats 400000 in
theorem rdouble_full0 (M i : Nat) (a : Option Addr) (m c : Nat) (w : World) (h : w.cell? ⟨M, 0, none⟩ = some (.slice a m c)) (hi : i < m) (hl : 64 ≤ m) :
    Calls Tryd.prog 28 #[.pointer (some ⟨M, 0, none⟩), .int .i64 0, .int .i64 i] w fun x w' => x = .returned (.int .i64 12) ∧ w = w' := by
  have hth := Lib.hid (rthere_yes0 M i a m c w h hi)
  have hln : 64 ≤ (m : Int) := by omega
  go_enter Tryd.func28, Tryd.ntmps28
  go_wp2_with fail
  with_reducible refine hth.out.mono ?_
  rintro x w2 ⟨rfl, hq⟩
  obtain rfl := hq
  clear hth
  go_wp2_with fail
  go_ret
  exact ⟨rfl, rfl⟩
set_option maxRecDepth 100000 in
set_option maxHeartbeats 8000000 in
theorem rdouble0 (base M i : Nat) (T : TypeId) (y z : Way) (w : World) (h : RefW base w M T y z) (hb : base ≤ w.heap.size) (hs : Small y) (hl : y.ms.length < 64) (hi : i < y.ms.length) :
    Calls Tryd.prog 28 #[.pointer (some ⟨M, 0, none⟩), .int .i64 0, .int .i64 i] w fun x w' => x = .returned (.int .i64 0) ∧ ∃ x', RStep base w w' M T y z x' z ∧ x'.i = y.i + 1 ∧ x'.o = y.o ∧ x'.l = y.l ∧ x'.ms = y.ms ++ [y.ms[i]] := by
  have hok := h.ok0
  have hn := h.n0
  obtain ⟨g, cap, hv⟩ := hok.form1 (by omega)
  have hat := h.at_
  have hMl := block_lt hat
  obtain ⟨iR, hR0, hR1, hR2, hR3⟩ := info_parts Tryd.infoRowW
  have hcv : w.cell? ⟨M, 0, none⟩ = some (.slice (some ⟨g, 0, none⟩) y.ms.length cap) := by rw [h.c]; simp [rcells, hv]
  have hcm : w.cell? ⟨g, i, none⟩ = some (.slice (some ⟨(y.ms[i]).b, 0, none⟩) (y.ms[i]).bs.length (y.ms[i]).cap) := hok.cell hv i hi
  have hgl : g < w.heap.size := World.block_lt_of_cell? w _ hcm
  have hth := Lib.hid (rthere_yes0 M i _ _ _ w hcv hi)
  have hown := hok.own
  rw [hv] at hown
  have hsrc : At w (some ⟨g, 0, none⟩) (y.ms.map encM) := owns_at hown
  have hmemi : y.ms[i] ∈ y.ms := List.getElem_mem hi
  generalize hm : y.ms[i] = m at *
  have hcvA : ∀ o, (w.alloc o).cell? ⟨M, 0, none⟩ = some (.slice (some ⟨g, 0, none⟩) y.ms.length cap) := fun o => ((Below.alloc (Below.refl w.heap.size w) (Nat.le_refl _) o).cell (p := ⟨M, 0, none⟩) hMl).trans hcv
  have hcvB : ∀ o o', ((w.alloc o).alloc o').cell? ⟨M, 0, none⟩ = some (.slice (some ⟨g, 0, none⟩) y.ms.length cap) := fun o o' => ((Below.alloc (Below.alloc (Below.refl w.heap.size w) (Nat.le_refl _) o) (by simp) o').cell (p := ⟨M, 0, none⟩) hMl).trans hcv
  have hcmA : ∀ o, (w.alloc o).cell? ⟨g, i, none⟩ = some (.slice (some ⟨m.b, 0, none⟩) m.bs.length m.cap) := fun o => ((Below.alloc (Below.refl w.heap.size w) (Nat.le_refl _) o).cell (p := ⟨g, i, none⟩) hgl).trans hcm
  obtain ⟨u, hu⟩ : ∃ u : Value, u = .slice (some ⟨m.b, 0, none⟩) m.bs.length m.cap := ⟨_, rfl⟩
  have gA : Below w.heap.size w (w.alloc (.cells #[] 27)).drew := (Below.alloc (Below.refl w.heap.size w) (Nat.le_refl _) _).drew
  have gB : Below w.heap.size w ((w.alloc (.cells #[] 27)).alloc (.cells #[.slice (some ⟨m.b, 0, none⟩) m.bs.length m.cap] 27)).drew := (Below.alloc (Below.alloc (Below.refl w.heap.size w) (Nat.le_refl _) _) (by simp) _).drew
  have gC : Below w.heap.size w ((w.alloc (.cells #[.slice (some ⟨m.b, 0, none⟩) m.bs.length m.cap] 27)).alloc (.cells #[] 27)).drew := (Below.alloc (Below.alloc (Below.refl w.heap.size w) (Nat.le_refl _) _) (by simp) _).drew
  have oA := Lib.hid (show ((w.alloc (.cells #[] 27)).drew).ownsRow w.heap.size 27 1 (.slice (some ⟨w.heap.size, 0, none⟩) 0 0) 0 [] from lit_own w 27)
  have oB := Lib.hid (show (((w.alloc (.cells #[] 27)).alloc (.cells #[.slice (some ⟨m.b, 0, none⟩) m.bs.length m.cap] 27)).drew).ownsRow w.heap.size 27 1 (.slice (some ⟨w.heap.size, 0, none⟩) 0 0) 0 [] from (lit_own w 27).alloc _)
  have oC := Lib.hid (show (((w.alloc (.cells #[.slice (some ⟨m.b, 0, none⟩) m.bs.length m.cap] 27)).alloc (.cells #[] 27)).drew).ownsRow w.heap.size 27 1 (.slice (some ⟨w.heap.size + 1, 0, none⟩) 0 0) 0 [] from by
    have := lit_own (w.alloc (.cells #[.slice (some ⟨m.b, 0, none⟩) m.bs.length m.cap] 27)) 27
    rw [World.size_alloc] at this
    exact owns_mono this (by omega))
  have xB : Hid ((((w.alloc (.cells #[] 27)).alloc (.cells #[.slice (some ⟨m.b, 0, none⟩) m.bs.length m.cap] 27)).drew).cell? ⟨w.heap.size + 1, 0, none⟩ = some (.slice (some ⟨m.b, 0, none⟩) m.bs.length m.cap)) := Lib.hid (by
    have := heap_alloc_new (w.alloc (.cells #[] 27)) (.cells #[.slice (some ⟨m.b, 0, none⟩) m.bs.length m.cap] 27)
    rw [World.size_alloc] at this
    exact (cell_of_block this 0).trans rfl)
  have xC : Hid ((((w.alloc (.cells #[.slice (some ⟨m.b, 0, none⟩) m.bs.length m.cap] 27)).alloc (.cells #[] 27)).drew).cell? ⟨w.heap.size, 0, none⟩ = some (.slice (some ⟨m.b, 0, none⟩) m.bs.length m.cap)) := Lib.hid (by
    have h1 := heap_alloc_new w (.cells #[.slice (some ⟨m.b, 0, none⟩) m.bs.length m.cap] 27)
    have h2 := (Below.heap_alloc (w.alloc (.cells #[.slice (some ⟨m.b, 0, none⟩) m.bs.length m.cap] 27)) (.cells #[] 27) w.heap.size (by simp)).trans h1
    exact (cell_of_block h2 0).trans rfl)
  have tA := Lib.hid (At.below hsrc gA)
  have tB := Lib.hid (At.below hsrc gB)
  have tC := Lib.hid (At.below hsrc gC)
  have hml := Lib.hid (show (y.ms.map encM).length = y.ms.length from List.length_map ..)
  have hone := encM_one y.ms
  have hnil : Hid ((some ⟨g, 0, none⟩ : Option Addr) = none → cap = 0) := Lib.hid (fun e => by cases e)
  have hk1 : 0 + y.ms.length ≤ maxLen := by unfold maxLen; omega
  have hk2 : (0 + y.ms.length) * 24 ≤ 140737488355328 := by omega
  have hk3 : y.ms.length + 1 ≤ maxLen := by unfold maxLen; omega
  have hk4 : (y.ms.length + 1) * 24 ≤ 140737488355328 := by omega
  have hk5 : y.ms.length ≤ 1000000 := by omega
  have hln : ¬ (64 ≤ (y.ms.length : Int)) := by omega
  have hin : (i : Int) < y.ms.length := by omega
  have hci := h.c 2
  have hwi : IntKind.i64.wrap (y.i + 1) = y.i + 1 := IntWalk.i64_in _ (by have := hs.i; omega)
  replace h := Lib.hid h
  replace hat := Lib.hid hat
  replace hv := Lib.hid hv
  replace hok := Lib.hid hok
  replace hn := Lib.hid hn
  replace hs := Lib.hid hs
  replace gA := Lib.hid gA
  replace gB := Lib.hid gB
  replace gC := Lib.hid gC
  replace hm := Lib.hid hm
  replace hmemi := Lib.hid hmemi
  clear hown hsrc hci hu u
  go_enter Tryd.func28, Tryd.ntmps28
  go_wp2_with fail
  with_reducible refine hth.out.mono ?_
  rintro x w2 ⟨rfl, hq⟩
  obtain rfl := hq
  clear hth
  go_upto_region 6 with fail
  go_cut [] from 23 to 46 (fun wx => ∃ x1, RStep base w wx M T y z x1 z ∧ x1.i = y.i ∧ x1.o = y.o ∧ x1.l = y.l ∧ x1.ms = y.ms ++ [m])
  case first =>
    go_region_law (first
      | ((refine stepOwn_app rfl (.tmp 25) (.tmp 31) 42 rfl w.heap.size 27 iR (.slice none 0 0) 24 Tryd.underlying42 hR0 hR1 hR2 hR3 rfl (.slice (some ⟨w.heap.size, 0, none⟩) 0 0) 0 [] (by simp [Act.eval, Act.put]) oA (some ⟨g, 0, none⟩) y.ms.length cap (y.ms.map encM) (by simp [Act.eval, Act.put]) hml tA hnil hone hk1 hk2 (by simp) ?_); intro v2 w2 ho2 hg2 hmv2; have gw2 := Lib.hid (gA.out.grown hg2.out gA.out.size (fun k hk => (World.ownsRow.lt oA.out k hk).1)); have hcv2 : w2.cell? ⟨M, 0, none⟩ = some (.slice (some ⟨g, 0, none⟩) y.ms.length cap) := (gw2.out.cell (p := ⟨M, 0, none⟩) hMl).trans hcv; have hcm2 : w2.cell? ⟨g, i, none⟩ = some (.slice (some ⟨m.b, 0, none⟩) m.bs.length m.cap) := (gw2.out.cell (p := ⟨g, i, none⟩) hgl).trans hcm; have ho2' : Hid (w2.ownsRow w.heap.size 27 1 v2 y.ms.length (y.ms.map encM)) := Lib.hid (by simpa using ho2.out); clear oA oB oC tA tB tC xB xC ho2)
      | ((refine stepOwn_app rfl (.tmp 25) (.tmp 31) 42 rfl w.heap.size 27 iR (.slice none 0 0) 24 Tryd.underlying42 hR0 hR1 hR2 hR3 rfl (.slice (some ⟨w.heap.size, 0, none⟩) 0 0) 0 [] (by simp [Act.eval, Act.put]) oB (some ⟨g, 0, none⟩) y.ms.length cap (y.ms.map encM) (by simp [Act.eval, Act.put]) hml tB hnil hone hk1 hk2 (by first | (simp; done) | (simp; omega)) ?_); intro v2 w2 ho2 hg2 hmv2; have gw2 := Lib.hid (gB.out.grown hg2.out gB.out.size (fun k hk => (World.ownsRow.lt oB.out k hk).1)); have bx : Hid (w2.cell? ⟨w.heap.size + 1, 0, none⟩ = some (.slice (some ⟨m.b, 0, none⟩) m.bs.length m.cap)) := Lib.hid (hg2.out.cell xB.out (by simp [Value.ownBlock])); have ho2' : Hid (w2.ownsRow w.heap.size 27 1 v2 y.ms.length (y.ms.map encM)) := Lib.hid (by simpa using ho2.out); clear oA oB oC tA tB tC xB xC ho2)
      | ((refine stepOwn_app rfl (.tmp 25) (.tmp 31) 42 rfl w.heap.size 27 iR (.slice none 0 0) 24 Tryd.underlying42 hR0 hR1 hR2 hR3 rfl (.slice (some ⟨w.heap.size + 1, 0, none⟩) 0 0) 0 [] (by simp [Act.eval, Act.put]) oC (some ⟨g, 0, none⟩) y.ms.length cap (y.ms.map encM) (by simp [Act.eval, Act.put]) hml tC hnil hone hk1 hk2 (by first | (simp; done) | (simp; omega)) ?_); intro v2 w2 ho2 hg2 hmv2; have gw2 := Lib.hid (gC.out.grown hg2.out gC.out.size (fun k hk => (World.ownsRow.lt oC.out k hk).1)); have bx : Hid (w2.cell? ⟨w.heap.size, 0, none⟩ = some (.slice (some ⟨m.b, 0, none⟩) m.bs.length m.cap)) := Lib.hid (hg2.out.cell xC.out (by simp [Value.ownBlock])); have ho2' : Hid (w2.ownsRow w.heap.size 27 1 v2 y.ms.length (y.ms.map encM)) := Lib.hid (by simpa using ho2.out); clear oA oB oC tA tB tC xB xC ho2)
      | ((refine stepW_app1 rfl (.tmp 32) (.tmp 42) rfl w.heap.size v2 y.ms.length (y.ms.map encM) (by simp [Act.eval, Act.put]) ho2' (.slice (some ⟨m.b, 0, none⟩) m.bs.length m.cap) rfl (by simp [Act.eval, Act.put]) hk5 gw2.out.size ?_); intro v4 w4 ho4 hg4 hmv4; obtain ⟨g4, c4, hv4⟩ := owns_form ho4.out; subst hv4; have hb4 := Lib.hid (gw2.out.grown hg4.out gw2.out.size (fun k hk => (World.ownsRow.lt ho2'.out k hk).1)); have hat4 := Lib.hid ((hb4.out.block M hMl).trans hat.out); have hcv4 : w4.cell? ⟨M, 0, none⟩ = some (.slice (some ⟨g, 0, none⟩) y.ms.length cap) := (by rw [cell_of_block hat4.out]; simp [rcells, hv.out]); have hci4 : w4.cell? ⟨M, 2, none⟩ = some (.int .i64 y.i) := (by rw [cell_of_block hat4.out]; rfl); have hfi4 : w4.frozen? ⟨M, 2, none⟩ = false := free_of_block hat4.out _; have hfv4 : w4.frozen? ⟨M, 0, none⟩ = false := free_of_block hat4.out _)
      | ((refine stepOwn_app rfl (.tmp 32) (.tmp 42) 42 rfl w.heap.size 27 iR (.slice none 0 0) 24 Tryd.underlying42 hR0 hR1 hR2 hR3 rfl v2 y.ms.length (y.ms.map encM) (by simp [Act.eval, Act.put]) ho2' _ 1 1 [.slice (some ⟨m.b, 0, none⟩) m.bs.length m.cap] (by simp [Act.eval, Act.put]) (Lib.hid rfl) (Lib.hid (At.one bx.out)) (Lib.hid (fun e => (by cases e))) (fun u hu => (by simp at hu; subst hu; rfl)) hk3 hk4 gw2.out.size ?_); intro v4 w4 ho4 hg4 hmv4; obtain ⟨g4, c4, hv4⟩ := owns_form ho4.out; subst hv4; have hb4 := Lib.hid (gw2.out.grown hg4.out gw2.out.size (fun k hk => (World.ownsRow.lt ho2'.out k hk).1)); have hat4 := Lib.hid ((hb4.out.block M hMl).trans hat.out); have hcv4 : w4.cell? ⟨M, 0, none⟩ = some (.slice (some ⟨g, 0, none⟩) y.ms.length cap) := (by rw [cell_of_block hat4.out]; simp [rcells, hv.out]); have hci4 : w4.cell? ⟨M, 2, none⟩ = some (.int .i64 y.i) := (by rw [cell_of_block hat4.out]; rfl); have hfi4 : w4.frozen? ⟨M, 2, none⟩ = false := free_of_block hat4.out _; have hfv4 : w4.frozen? ⟨M, 0, none⟩ = false := free_of_block hat4.out _))
    all_goals
      go_wp2_with fail
      have hU5 := (Upd.refl hat4.out).setCell (j := 0) (.slice (some ⟨g4, 0, none⟩) (y.ms.length + 1) c4)
      have hO45 : Only (fun k => k = M) w4 _ := Only.ofUpd hU5 rfl
      have hO5 : Only (fun k => k = M) w _ := (Only.ofBelow (D := fun k => k = M) hb4.out).trans hO45 fun _ _ h => h
      have h4 := hO45.owns ho4.out fun k hk e => by have := (World.ownsRow.lt ho4.out k hk).1; omega
      have hnew := rrow_ok h.out hok.out hn.out hb hO5 (v' := .slice (some ⟨g4, 0, none⟩) (y.ms.length + 1) c4) (ms' := y.ms ++ [m]) (by simpa [encM] using h4) (fun m' hm' => by
        rcases List.mem_append.1 hm' with hm' | hm'
        · exact .inl hm'
        · obtain rfl : m' = m := by simpa using hm'
          exact .inl hmemi.out) y.i y.o y.l
      go_meet
      exact ⟨_, RStep.of0 h.out hO5 hnew (hU5.to rfl).here, rfl, rfl, rfl, rfl⟩
  case rest =>
    obtain ⟨x1, hst1, q1, q2, q3, q4⟩ := hcut
    have hci5 : wc.cell? ⟨M, 2, none⟩ = some (.int .i64 y.i) := by rw [hst1.ref.c]; show some (Value.int .i64 x1.i) = _; rw [q1]
    have hfi5 : wc.frozen? ⟨M, 2, none⟩ = false := hst1.ref.f _
    have hat1 := Lib.hid hst1.ref.at_
    have hn1 := Lib.hid hst1.ref.n0
    have hok1 := Lib.hid hst1.ref.ok0
    replace hst1 := Lib.hid hst1
    replace q1 := Lib.hid q1
    replace q2 := Lib.hid q2
    replace q3 := Lib.hid q3
    replace q4 := Lib.hid q4
    clear oA oB oC xB xC tA tB tC hcvA hcvB hcmA hcv hcm
    go_wp2_with fail
    go_still_tail 12, (by kernel_rfl)
    change wpList _ _ _ _ _ wc.drew
    go_wp2_with fail
    go_ret
    have hU6 := ((Upd.refl hat1.out).setCell (j := 2) (.int .i64 (y.i + 1))).drew
    have hO6 := Only.ofUpd (D := fun k => k = M) hU6 rfl
    have hst2 := RStep.of0 hst1.out.ref hO6 (rnums_ok hok1.out hn1.out hO6 (y.i + 1) x1.o x1.l) (hU6.to rfl).here
    exact ⟨rfl, _, hst1.out.trans hst2, rfl, q2.out, q3.out, q4.out⟩

end Go.Proofs.YtejkajlbffkdnaaDoor
