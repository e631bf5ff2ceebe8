/- WireCounts returns true, for all acts. -/
import Derived.Test.YtejkajlbffkdnaaDoorCur
import Derived.Test.YtejkajlbffkdnaaDoorActs
import Derived.Test.YtejkajlbffkdnaaDoorAlive24
import Derived.Test.YtejkajlbffkdnaaDoorLoopF
import Derived.Deep.QuietTactic
import Derived.Deep.CutRange
import Derived.Deep.CutBlock
namespace Go.Proofs.YtejkajlbffkdnaaDoor
open Go.RowKit

set_option maxRecDepth 100000 in
set_option maxHeartbeats 4000000 in
theorem counts_walk (a : Option Addr) (c : Nat) (xs : List ActV) (w : World) (hA : ArgA w a xs) (e : Nat → Addr) (hE : WErr w e) (hge : 12 ≤ w.heap.size) :
    Calls Tryd.prog 3 #[.slice a xs.length c] w fun x w' => x = .returned (.bool true) ∧ Below w.heap.size w w' := by
  have hal := Lib.hid (alive24_any w)
  replace hA := Lib.hid hA
  replace hE := Lib.hid hE
  obtain ⟨L, hL⟩ : ∃ L, L = xs.length := ⟨_, rfl⟩
  have hlong := Lib.hid (fun W h => long_any a c xs W h)
  rw [← hL] at hlong ⊢
  replace hL := Lib.hid hL
  go_enter Tryd.func3, Tryd.ntmps3
  go_wp2_with fail
  with_reducible refine hal.out.mono ?_
  rintro e1 w1 ⟨rfl, hb1⟩
  clear hal
  replace hb1 := Lib.hid hb1
  go_wp2_with fail
  with_reducible refine (hlong.out _ (hA.out.below hb1.out)).mono ?_
  rintro e2 w2 ⟨r, rfl, hr, hb2⟩
  replace hb2 := Lib.hid (hb1.out.trans (hb2.mono hb1.out.size))
  replace hr := Lib.hid hr
  clear hlong hb1
  cases r
  case true =>
    go_wp2_with fail
    go_ret
    exact ⟨rfl, hb2.out⟩
  have hL2 : L ≤ 200 := hr.out rfl
  clear hr
  go_wp2_with fail
  with_reducible refine (wnew_cur w2).mono ?_
  rintro e3 w3 ⟨rfl, hcur0, hb3⟩
  have hbz := hb2.out.size
  generalize hB : w2.heap.size = B at *
  replace hb3 := Lib.hid (show Below w.heap.size w w3 from hb2.out.trans (hb3.mono hbz))
  have hsz3 : B ≤ w3.heap.size := by
    obtain ⟨y, z, hw, _⟩ := hcur0
    exact Nat.le_of_lt (block_lt hw.at_)
  replace hcur0 := Lib.hid hcur0
  replace hB := Lib.hid hB
  clear hb2
  go_wp2_with fail
  refine wp_loopF [(false, 5), (true, 3), (false, 7), (true, 83)] _ [] (fun U wr => ∃ k : Nat, k ≤ L ∧ U 15 = .int .i64 k ∧ Cur B B 54 k wr ∧ Below w.heap.size w wr ∧ B ≤ wr.heap.size)
    (fun U _ => L - (intOf (U 15)).toNat) ?_ ?_
  · simp only [List.getD_cons_zero, List.getD_cons_succ]
    exact ⟨0, Nat.zero_le _, rfl, hcur0.out, hb3.out, hsz3⟩
  · clear hcur0 hb3 hsz3
    intro U wr hrel KK hback l' hl'
    obtain ⟨k, hk, h15, hcur, hbel, hBr⟩ := hrel
    simp only [fillS, popSeg, cond_true, cond_false, Nat.reduceAdd, h15] at hl'
    subst hl'
    replace h15 := Lib.hid h15
    by_cases hlt : k < L
    · obtain ⟨b, o, rfl, hat0⟩ := hA.out.row k (by rw [← hL.out]; exact hlt)
      have hat := hat0.below (hbel.mono (Nat.le_refl _))
      have harg0 := hat0.arg
      clear hat0
      have hlt2 : (k : Int) < L := by omega
      obtain ⟨c0, c1, c2, c3, c4, c5, harg⟩ := hat
      generalize xs[k]'(by rw [← hL.out]; exact hlt) = x at *
      have hdA : 0 < x.bs.length → ∀ b o, x.a = some ⟨b, o, none⟩ → b ≠ B := fun h0 b o e => by
        rw [e] at harg0
        have := RowB.lt harg0.row h0
        omega
      clear harg0
      replace hbel := Lib.hid hbel
      replace hcur := Lib.hid hcur
      replace harg := Lib.hid harg
      have hsz := hbel.out.size
      go_upto_block 2 with fail
      generalize hWA : wr.alloc (.cells #[.int .i64 x.kind, .int .i64 x.way, .int .i64 x.i, .int .i64 x.at_, .int .u8 (x.by_.toNat : Int), .slice x.a x.bs.length x.c] 29) = wA
      have hgA : Below wr.heap.size wr wA := hWA ▸ (Below.refl _ _).alloc (Nat.le_refl _) _
      have hbx : wA.heap[wr.heap.size]? = some (.cells x.cells 29 (0, 0)) := hWA ▸ heap_alloc_new wr _
      have hcA : Cur B B 54 k wA := hcur.out.below hgA
      have hsA := hgA.size
      have hbA : B ≤ wA.heap.size := by omega
      have hbelA : Below w.heap.size w wA := hbel.out.trans (hgA.mono hsz)
      have hEA : WErr wA e := hE.out.below hbelA hge
      have haA := harg.out.below hgA
      clear c0 c1 c2 c3 c4 c5 harg hcur
      generalize wr.heap.size = X at *
      have c0 : wA.cell? ⟨X, 0, none⟩ = some (.int .i64 x.kind) := by rw [cell_of_block hbx]; rfl
      have c1 : wA.cell? ⟨X, 1, none⟩ = some (.int .i64 x.way) := by rw [cell_of_block hbx]; rfl
      have c2 : wA.cell? ⟨X, 2, none⟩ = some (.int .i64 x.i) := by rw [cell_of_block hbx]; rfl
      have c3 : wA.cell? ⟨X, 3, none⟩ = some (.int .i64 x.at_) := by rw [cell_of_block hbx]; rfl
      have c4 : wA.cell? ⟨X, 4, none⟩ = some (.int .u8 (x.by_.toNat : Int)) := by rw [cell_of_block hbx]; rfl
      have c5 : wA.cell? ⟨X, 5, none⟩ = some (.slice x.a x.bs.length x.c) := by rw [cell_of_block hbx]; rfl
      have q0 := Lib.hid (send_cur hcA (by omega) hbA hEA (by omega) x.way x.a x.c x.bs haA hdA)
      have q1 := Lib.hid (take_cur hcA (by omega) hbA hEA (by omega) x.way x.i)
      have q2 := Lib.hid (drop_cur hcA (by omega) hbA hEA (by omega) x.way x.i)
      have q3 := Lib.hid (double_cur hcA (by omega) hbA hEA (by omega) x.way x.i)
      have q4 := Lib.hid (bend_cur hcA (by omega) hbA hEA (by omega) x.way x.i x.at_ x.by_)
      have q5 := Lib.hid (clear_cur hcA (by omega) hbA)
      have q6 := Lib.hid (cur_same hcA (Drawn.refl wA)).1
      replace hbelA := Lib.hid hbelA
      clear hcA hEA haA hgA hWA hbx hdA hbel
      go_cut [] from 19 to 71 (fun wx => Cur B B 54 (k + 1) wx ∧ Below w.heap.size w wx)
      case first =>
        clear hback
        go_wp2_with (first
          | (go_at_call 8; ((with_reducible refine q0.out.mono ?_); rintro e5 w5 ⟨v5, rfl, hc5, hb5⟩; replace hc5 := Lib.hid hc5; replace hb5 := Lib.hid (hbelA.out.trans (hb5.mono hbz)); clear q0 q1 q2 q3 q4 q5 q6 hbelA))
          | (go_at_call 9; ((with_reducible refine q1.out.mono ?_); rintro e5 w5 ⟨v5, v6, rfl, hc5, hb5⟩; replace hc5 := Lib.hid hc5; replace hb5 := Lib.hid (hbelA.out.trans (hb5.mono hbz)); clear q0 q1 q2 q3 q4 q5 q6 hbelA))
          | (go_at_call 10; ((with_reducible refine q2.out.mono ?_); rintro e5 w5 ⟨v5, rfl, hc5, hb5⟩; replace hc5 := Lib.hid hc5; replace hb5 := Lib.hid (hbelA.out.trans (hb5.mono hbz)); clear q0 q1 q2 q3 q4 q5 q6 hbelA))
          | (go_at_call 11; ((with_reducible refine q3.out.mono ?_); rintro e5 w5 ⟨v5, rfl, hc5, hb5⟩; replace hc5 := Lib.hid hc5; replace hb5 := Lib.hid (hbelA.out.trans (hb5.mono hbz)); clear q0 q1 q2 q3 q4 q5 q6 hbelA))
          | (go_at_call 12; ((with_reducible refine q4.out.mono ?_); rintro e5 w5 ⟨v5, rfl, hc5, hb5⟩; replace hc5 := Lib.hid hc5; replace hb5 := Lib.hid (hbelA.out.trans (hb5.mono hbz)); clear q0 q1 q2 q3 q4 q5 q6 hbelA))
          | (go_at_call 13; ((with_reducible refine q5.out.mono ?_); rintro e5 w5 ⟨rfl, hc5, hb5⟩; replace hc5 := Lib.hid hc5; replace hb5 := Lib.hid (hbelA.out.trans (hb5.mono hbz)); clear q0 q1 q2 q3 q4 q5 q6 hbelA)))
        all_goals
          go_meet
          case rel => first | exact ⟨hc5.out, hb5.out⟩ | exact ⟨q6.out, hbelA.out⟩
      case rest =>
        obtain ⟨⟨y, z, hw, iy, iz⟩, hbw⟩ := hcut
        replace hw := Lib.hid hw
        replace hbw := Lib.hid hbw
        obtain ⟨hsum0, ho0, hl0, hm0'⟩ := iy
        obtain ⟨hsum1, ho1, hl1, hm1'⟩ := iz
        replace hsum0 := Lib.hid hsum0
        replace hsum1 := Lib.hid hsum1
        clear q0 q1 q2 q3 q4 q5 q6 c0 c1 c2 c3 c4 c5 hbelA
        go_wp2_with fail
        refine wp_loop_rounds 3 ?_
        -- way 0
        rw [rounds_succ]
        go_wp2_with fail
        have hcnt0 := Lib.hid (wcount0 B y.i y.o y.l wc (hw.out.c 0) (hw.out.c 1) (hw.out.c 2))
        with_reducible refine hcnt0.out.mono ?_
        rintro e6 w6 ⟨rfl, hb6⟩
        replace hw := Lib.hid (hw.out.only (Only.ofBelow (D := fun _ => False) hb6) (fun _ _ h => h))
        clear hcnt0
        replace hbw := Lib.hid (hbw.out.trans (hb6.mono hbw.out.size))
        clear hb6
        obtain ⟨ga0, cap0, hv0, _, _⟩ := hw.out.ok0.form
        have hlen0 : ∀ W' : World, W'.heap = (w6.alloc (.cells #[.int .i64 y.i, .int .i64 y.o, .int .i64 y.l] 38)).heap → W'.cell? ⟨B, 3, none⟩ = some (.slice ga0 y.ms.length cap0) := fun W' hW' => by
          have h1 := (hw.out.only ((Only.refl (fun _ => False) _).alloc (.cells #[.int .i64 y.i, .int .i64 y.o, .int .i64 y.l] 38)) (fun _ _ h => h)).at_
          rw [← hW'] at h1
          rw [cell_of_block h1]
          simp [wcells, hv0]
        replace hlen0 := Lib.hid hlen0
        have hwa0 : IntKind.i64.wrap (y.o + y.l) = y.o + y.l := IntWalk.i64_in _ (by omega)
        have hwb0 : IntKind.i64.wrap (y.o + y.l + y.ms.length) = y.i := by rw [← hsum0.out]; exact IntWalk.i64_in _ (by have := hsum0.out; omega)
        have hm0 : ¬ ((64 : Int) < (y.ms.length : Int)) := by omega
        clear hv0
        go_wp2_with fail
        have hq0 := Lib.hid (fun n => wlen0 B _ _ _ ((w6.alloc (.cells #[.int .i64 y.i, .int .i64 y.o, .int .i64 y.l] 38)).drewN n) (hlen0.out _ rfl))
        go_quiet ((go_at_call 15; exact Calls.quiet_of_same (hq0.out _)))
        go_wp2_with fail
        generalize hW8 : (w6.alloc (.cells #[.int .i64 y.i, .int .i64 y.o, .int .i64 y.l] 38)).drewN nq = w8
        replace hw := Lib.hid (show Wire B w8 B 54 y z from hW8 ▸ hw.out.only (((Only.refl (fun _ => False) _).alloc _).drewN nq) (fun _ _ h => h))
        replace hbw := Lib.hid (show Below w.heap.size w w8 from hW8 ▸ (hbw.out.alloc hbw.out.size _).trans (below_drewN (Below.refl _ _) nq))
        clear hW8 hq0 hlen0 hwa0 hwb0 hm0
        -- way 1
        rw [rounds_succ]
        go_wp2_with fail
        have hcnt1 := Lib.hid (wcount1 B z.i z.o z.l w8 (hw.out.c 4) (hw.out.c 5) (hw.out.c 6))
        with_reducible refine hcnt1.out.mono ?_
        rintro e9 w9 ⟨rfl, hb9⟩
        replace hw := Lib.hid (hw.out.only (Only.ofBelow (D := fun _ => False) hb9) (fun _ _ h => h))
        clear hcnt1
        replace hbw := Lib.hid (hbw.out.trans (hb9.mono hbw.out.size))
        clear hb9
        obtain ⟨ga1, cap1, hv1, _, _⟩ := hw.out.ok1.form
        have hlen1 : ∀ W' : World, W'.heap = (w9.alloc (.cells #[.int .i64 z.i, .int .i64 z.o, .int .i64 z.l] 38)).heap → W'.cell? ⟨B, 7, none⟩ = some (.slice ga1 z.ms.length cap1) := fun W' hW' => by
          have h1 := (hw.out.only ((Only.refl (fun _ => False) _).alloc (.cells #[.int .i64 z.i, .int .i64 z.o, .int .i64 z.l] 38)) (fun _ _ h => h)).at_
          rw [← hW'] at h1
          rw [cell_of_block h1]
          simp [wcells, hv1]
        replace hlen1 := Lib.hid hlen1
        have hwa1 : IntKind.i64.wrap (z.o + z.l) = z.o + z.l := IntWalk.i64_in _ (by omega)
        have hwb1 : IntKind.i64.wrap (z.o + z.l + z.ms.length) = z.i := by rw [← hsum1.out]; exact IntWalk.i64_in _ (by have := hsum1.out; omega)
        have hm1 : ¬ ((64 : Int) < (z.ms.length : Int)) := by omega
        clear hv1
        go_wp2_with fail
        have hq1 := Lib.hid (fun n => wlen1 B _ _ _ ((w9.alloc (.cells #[.int .i64 z.i, .int .i64 z.o, .int .i64 z.l] 38)).drewN n) (hlen1.out _ rfl))
        go_quiet ((go_at_call 15; exact Calls.quiet_of_same (hq1.out _)))
        go_wp2_with fail
        generalize hW8 : (w9.alloc (.cells #[.int .i64 z.i, .int .i64 z.o, .int .i64 z.l] 38)).drewN nq = w10
        replace hw := Lib.hid (show Wire B w10 B 54 y z from hW8 ▸ hw.out.only (((Only.refl (fun _ => False) _).alloc _).drewN nq) (fun _ _ h => h))
        replace hbw := Lib.hid (show Below w.heap.size w w10 from hW8 ▸ (hbw.out.alloc hbw.out.size _).trans (below_drewN (Below.refl _ _) nq))
        clear hW8 hq1 hlen1 hwa1 hwb1 hm1
        have hcur2 := Lib.hid (show Cur B B 54 (k + 1) w10 from ⟨y, z, hw.out, ⟨hsum0.out, ho0, hl0, hm0'⟩, ⟨hsum1.out, ho1, hl1, hm1'⟩⟩)
        have hB10 := Nat.le_of_lt (block_lt hw.out.at_)
        clear hw hsum0 hsum1 ho0 hl0 hm0' ho1 hl1 hm1'
        rw [rounds_succ]
        go_wp2_with fail
        refine hback.out _ _ (by kernel_rfl) ?_ ?_
        · simp only [List.getD_cons_zero, List.getD_cons_succ]
          exact ⟨k + 1, by omega, by go_num, hcur2.out, hbw.out, hB10⟩
        · have h15 := h15.out
          simp only [List.getD_cons_zero, List.getD_cons_succ, h15, intOf]
          omega
    · obtain rfl : k = L := by omega
      clear hcur hBr
      replace hbel := Lib.hid hbel
      go_wp2_with fail
      go_ret
      exact ⟨rfl, hbel.out⟩
end Go.Proofs.YtejkajlbffkdnaaDoor
