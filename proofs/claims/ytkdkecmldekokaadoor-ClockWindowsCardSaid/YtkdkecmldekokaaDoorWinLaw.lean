/- The walk over ClockWindows. -/
import Derived.Test.YtkdkecmldekokaaDoorClockLaw
namespace Go.Proofs.YtkdkecmldekokaaDoor
open Go.RowKit


theorem check_not (s n k d t r : Int) (h : ¬ ParOk s n k d t r) (hn : -9223372036854775808 ≤ n ∧ n ≤ 9223372036854775807) (z : Nat → Addr) (w : World) (hE : ParErrs w z) :
    Calls Tryd.prog 7 #[.agg #[.int .i64 s, .int .i64 n, .int .i64 k, .int .i64 d, .int .i64 t, .int .i64 r]] w fun e w' => ∃ g, e = .returned (.iface 47 (.pointer (some ⟨g, 0, none⟩))) ∧ Below w.heap.size w w' := by
  have fin : ∀ F V x, (Calls Tryd.prog 7 #[parV s n k d t r] w fun e w' => ∃ v, e = .returned v ∧ WrongV w.heap.size w' v F V x ∧ Below w.heap.size w w') → Calls Tryd.prog 7 #[.agg #[.int .i64 s, .int .i64 n, .int .i64 k, .int .i64 d, .int .i64 t, .int .i64 r]] w fun e w' => ∃ g, e = .returned (.iface 47 (.pointer (some ⟨g, 0, none⟩))) ∧ Below w.heap.size w w' := by
    intro F V x hc
    refine Calls.mono hc ?_
    rintro e w' ⟨v, rfl, ⟨g, rfl, _⟩, hb⟩
    exact ⟨g, rfl, hb⟩
  rcases (show ¬ (0 ≤ s ∧ s ≤ 2000) ∨ (0 ≤ s ∧ s ≤ 2000) from by omega) with hs | hs
  · exact fin _ _ _ (check_bad0 s n k d t r (by omega) z w hE hn)
  rcases (show ¬ (0 ≤ n ∧ n ≤ 8) ∨ (0 ≤ n ∧ n ≤ 8) from by omega) with hn' | hn'
  · exact fin _ _ _ (check_bad1 s n k d t r hs (by omega) z w hE)
  rcases (show ¬ (1 ≤ k ∧ k ≤ 12) ∨ (1 ≤ k ∧ k ≤ 12) from by omega) with hk | hk
  · exact fin _ _ _ (check_bad2 s n k d t r hs hn' (by omega) z w hE)
  rcases (show ¬ (1 ≤ d ∧ d ≤ 10000) ∨ (1 ≤ d ∧ d ≤ 10000) from by omega) with hd | hd
  · exact fin _ _ _ (check_bad3 s n k d t r hs hn' hk (by omega) z w hE)
  rcases (show ¬ (1 ≤ t ∧ t ≤ d) ∨ (1 ≤ t ∧ t ≤ d) from by omega) with ht | ht
  · exact fin _ _ _ (check_bad4 s n k d t r hs hn' hk hd (by omega) z w hE)
  rcases (show ¬ (0 ≤ r ∧ r ≤ 5) ∨ (0 ≤ r ∧ r ≤ 5) from by omega) with hr | hr
  · exact fin _ _ _ (check_bad5 s n k d t r hs hn' hk hd ht (by omega) z w hE)
  exact absurd ⟨hs, hn', hk, hd, ht, hr⟩ h

set_option maxRecDepth 10000 in
set_option maxHeartbeats 4000000 in
theorem windows_walk_in (s n k d t r f0 : Int) (w : World) (z : Nat → Addr) (hn : -9223372036854775808 ≤ n ∧ n ≤ 9223372036854775807) (hE : ParErrs w z) (hW : WordsAt w) :
    Calls Tryd.prog 4 #[.agg #[.int .i64 s, .int .i64 n, .int .i64 k, .int .i64 d, .int .i64 t, .int .i64 r], .int .i64 f0] w fun e w' => e = .returned (.bool true) ∧ Below w.heap.size w w' := by
  have hb0 := Lib.hid ((Below.refl w.heap.size w).alloc (Nat.le_refl _) (.cells #[.int .i64 s, .int .i64 n, .int .i64 k, .int .i64 d, .int .i64 t, .int .i64 r] 27))
  have hp := Lib.hid (heap_alloc_new w (.cells #[.int .i64 s, .int .i64 n, .int .i64 k, .int .i64 d, .int .i64 t, .int .i64 r] 27))
  have hE0 := Lib.hid hE
  replace hE := Lib.hid (hE.below hb0.out)
  have hal := Lib.hid (alive26_any z _ hE.out (hW.below hb0.out))
  clear hW
  rcases (Classical.em (ParOk s n k d t r)).symm with hok | hok
  · go_enter Tryd.func4, Tryd.ntmps4
    go_wp2_with fail
    with_reducible refine hal.out.mono ?_
    rintro e w1 ⟨rfl, hb1⟩
    replace hE := Lib.hid (hE.out.below hb1)
    replace hp := Lib.hid ((hb1.block _ (by simp)).trans hp.out)
    replace hb0 := Lib.hid (hb0.out.trans (hb1.mono hb0.out.size))
    clear hb1 hal
    go_wp2_with (refine wpList_load_row rfl 27 (.tmp 2) rfl w.heap.size #[.int .i64 s, .int .i64 n, .int .i64 k, .int .i64 d, .int .i64 t, .int .i64 r] _ rfl hp Tryd.underlying27 rfl (by kernel_rfl) ?_)
    with_reducible refine (check_not s n k d t r hok hn z _ hE.out).mono ?_
    rintro e w2 ⟨g, rfl, hb1⟩
    replace hb0 := Lib.hid (hb0.out.trans (hb1.mono hb0.out.size))
    clear hb1 hok
    go_wp2_with fail
    go_ret
    exact ⟨rfl, hb0.out⟩
  obtain ⟨hs, hn', hk, hd, ht, hr⟩ := id hok
  replace hok := Lib.hid hok
  rcases (show 60 < d ∨ d ≤ 60 from by omega) with h60 | h60
  · go_enter Tryd.func4, Tryd.ntmps4
    go_wp2_with fail
    with_reducible refine hal.out.mono ?_
    rintro e w1 ⟨rfl, hb1⟩
    replace hE := Lib.hid (hE.out.below hb1)
    replace hp := Lib.hid ((hb1.block _ (by simp)).trans hp.out)
    replace hb0 := Lib.hid (hb0.out.trans (hb1.mono hb0.out.size))
    clear hb1 hal
    go_wp2_with (refine wpList_load_row rfl 27 (.tmp 2) rfl w.heap.size #[.int .i64 s, .int .i64 n, .int .i64 k, .int .i64 d, .int .i64 t, .int .i64 r] _ rfl hp Tryd.underlying27 rfl (by kernel_rfl) ?_)
    with_reducible refine (check_lit s n k d t r hok.out z _ hE.out).mono ?_
    rintro e w2 ⟨rfl, hb1⟩
    replace hp := Lib.hid ((hb1.block _ (by have := hb0.out.size; have := (Array.getElem?_eq_some_iff.1 hp.out).1; omega)).trans hp.out)
    replace hb0 := Lib.hid (hb0.out.trans (hb1.mono hb0.out.size))
    obtain ⟨c0, c1, c2, c3, c4, c5⟩ := box6 hp.out
    clear hb1
    go_wp2_with fail
    go_ret
    exact ⟨rfl, hb0.out⟩
  go_enter Tryd.func4, Tryd.ntmps4
  go_wp2_with fail
  with_reducible refine hal.out.mono ?_
  rintro e w1 ⟨rfl, hb1⟩
  replace hE := Lib.hid (hE.out.below hb1)
  replace hp := Lib.hid ((hb1.block _ (by simp)).trans hp.out)
  replace hb0 := Lib.hid (hb0.out.trans (hb1.mono hb0.out.size))
  clear hb1 hal
  go_wp2_with (refine wpList_load_row rfl 27 (.tmp 2) rfl w.heap.size #[.int .i64 s, .int .i64 n, .int .i64 k, .int .i64 d, .int .i64 t, .int .i64 r] _ rfl hp Tryd.underlying27 rfl (by kernel_rfl) ?_)
  with_reducible refine (check_lit s n k d t r hok.out z _ hE.out).mono ?_
  rintro e w2 ⟨rfl, hb1⟩
  have hlt := (Array.getElem?_eq_some_iff.1 hp.out).1
  replace hE := Lib.hid (hE.out.below hb1)
  replace hp := Lib.hid ((hb1.block _ hlt).trans hp.out)
  replace hb0 := Lib.hid (hb0.out.trans (hb1.mono hb0.out.size))
  clear hb1 hlt
  obtain ⟨c0, c1, c2, c3, c4, c5⟩ := box6 hp.out
  go_wp2_with fail
  clear c0 c1 c2 c3 c4 c5
  obtain ⟨f, hf1, hf2⟩ : ∃ f : Int, wrap64 ((IntKind.u64.wrap f0).tmod 1000) = f ∧ 0 ≤ f ∧ f < 1000 := by
    have h0 : 0 ≤ IntKind.u64.wrap f0 := by rw [IntKind.wrap_u64]; omega
    have h1 : 0 ≤ (IntKind.u64.wrap f0).tmod 1000 := Int.tmod_nonneg _ h0
    have h2 : (IntKind.u64.wrap f0).tmod 1000 < 1000 := Int.tmod_lt_of_pos _ (by omega)
    exact ⟨(IntKind.u64.wrap f0).tmod 1000, IntWalk.wrap64_in _ (by omega), h1, h2⟩
  rw [hf1]
  clear hf1
  obtain ⟨L, hL1, hL2, hL3, hL4⟩ : ∃ L : Int, t * (r + 1) = L ∧ 1 ≤ L ∧ L ≤ 360 ∧ L = t + r * t := by
    have h0 : 0 ≤ t * r := Int.mul_nonneg (by omega) (by omega)
    have h1 : t * r ≤ t * 5 := Int.mul_le_mul_of_nonneg_left (by omega) (by omega)
    refine ⟨t * (r + 1), rfl, ?_, ?_, ?_⟩
    · rw [Int.mul_add]; omega
    · rw [Int.mul_add]; omega
    · rw [Int.mul_add, Int.mul_comm r t]; omega
  replace hL4 := Lib.hid hL4
  with_reducible refine (window_any s n k d t r hok.out z _ hE.out).mono ?_
  rintro e w3 ⟨rfl, hb1⟩
  rw [hL1]
  have hlt := (Array.getElem?_eq_some_iff.1 hp.out).1
  replace hE := Lib.hid (hE.out.below hb1)
  replace hp := Lib.hid ((hb1.block _ hlt).trans hp.out)
  replace hb0 := Lib.hid (hb0.out.trans (hb1.mono hb0.out.size))
  clear hb1 hlt hL1
  go_wp2_with (refine wpList_load_row rfl 27 (.tmp 2) rfl w.heap.size #[.int .i64 s, .int .i64 n, .int .i64 k, .int .i64 d, .int .i64 t, .int .i64 r] _ rfl hp Tryd.underlying27 rfl (by kernel_rfl) ?_)
  refine (new_any s n k d t r f (by omega) (by omega) _).mono ?_
  rintro e w4 ⟨rfl, hb1⟩
  have hlt := (Array.getElem?_eq_some_iff.1 hp.out).1
  have hlt4 : w.heap.size < w4.heap.size := Nat.lt_of_lt_of_le hlt hb1.size
  have hb2 := hb1.alloc hb1.size (.cells #[.int .i64 (f + d), .int .i64 (-1), .int .i64 0, .int .i64 0] 34)
  replace hE := Lib.hid (hE.out.below hb2)
  replace hp := Lib.hid ((hb2.block _ hlt).trans hp.out)
  have ht0 := Lib.hid (heap_alloc_new w4 (.cells #[.int .i64 (f + d), .int .i64 (-1), .int .i64 0, .int .i64 0] 34))
  replace hb0 := Lib.hid (hb0.out.trans (hb2.mono hb0.out.size))
  clear hb1 hb2 hlt
  go_wp2_with fail
  go_loopw [7, 8, 9] (fun v7 v8 v9 wr => ∃ l q i du op tr un : Int, v7 = .int .i64 l ∧ v8 = .int .i64 q ∧ v9 = .int .i64 i ∧ CInv d t r L f i l q du op tr un ∧ ParErrs wr z ∧ wr.heap[w.heap.size]? = some (.cells #[.int .i64 s, .int .i64 n, .int .i64 k, .int .i64 d, .int .i64 t, .int .i64 r] 27) ∧ wr.heap[w4.heap.size]? = some (.cells #[.int .i64 du, .int .i64 op, .int .i64 tr, .int .i64 un] 34) ∧ Below w.heap.size w wr)
    (fun _ _ j _ => (f + 4 * (d + L) + 1 - intOf j).toNat)
  case atStart => exact ⟨f, 0, f + 1, f + d, -1, 0, 0, rfl, rfl, rfl, CInv.start (by omega) (by omega) (by omega), hE.out, hp.out, ht0.out, hb0.out⟩
  case round =>
    clear hE hp ht0 hb0
    obtain ⟨l, q, i, du, op, tr, un, rfl, rfl, rfl, hC, hE, hp, ht0, hb0⟩ := hrel
    have hC0 := hC
    obtain ⟨g1, g2, g3, g4, g5, g6, g7, g8, g9, _⟩ := hC
    replace hE := Lib.hid hE
    replace hp := Lib.hid hp
    replace ht0 := Lib.hid ht0
    replace hb0 := Lib.hid hb0
    rcases (show f + 4 * (d + L) < i ∨ i ≤ f + 4 * (d + L) from by omega) with hle | hle
    · have hq := hC0.end (by omega) (by omega) (by omega) (by omega)
      replace hC0 := Lib.hid hC0
      go_wp2_with fail
      go_ret
      exact ⟨rfl, hb0.out⟩
    obtain ⟨r1, r2, r3, r4, r5⟩ := hC0.right
    rcases (show (op ≤ -1 ∧ du ≤ i) ∨ (op ≤ -1 ∧ i < du) ∨ (-1 < op ∧ i < un) ∨ (-1 < op ∧ un ≤ i ∧ tr < r) ∨ (-1 < op ∧ un ≤ i ∧ r ≤ tr) from by omega) with hw | hw | hw | hw | hw
    · have hwant : wantOf r i du op tr un = 1 := by unfold wantOf; rw [if_pos hw]
      have hN := hC0.ask hle (by omega) (by omega) (by omega) (by omega) hL4.out (by omega) (by omega) (by omega)
      have hLate := hN.late (by omega) (by omega)
      obtain ⟨y1, y2, y3, y4, y5⟩ := hN.right
      replace hN := Lib.hid hN
      replace hC0 := Lib.hid hC0
      replace y5 := Lib.hid y5
      go_wp2_with (first | (refine wpList_load_row rfl 34 (.tmp 6) rfl w4.heap.size #[.int .i64 du, .int .i64 op, .int .i64 tr, .int .i64 un] _ rfl ht0 Tryd.underlying34 rfl (by kernel_rfl) ?_) | (refine wpList_load_row rfl 27 (.tmp 2) rfl w.heap.size #[.int .i64 s, .int .i64 n, .int .i64 k, .int .i64 d, .int .i64 t, .int .i64 r] _ rfl hp Tryd.underlying27 rfl (by kernel_rfl) ?_))
      with_reducible refine (wants_any s n k d t r i du op tr un hok.out z _ hE.out).mono ?_
      rintro e w5 ⟨rfl, hb1⟩
      rw [hwant]
      replace hE := Lib.hid (hE.out.below hb1)
      have hlt := (Array.getElem?_eq_some_iff.1 hp.out).1
      have hlt0 := (Array.getElem?_eq_some_iff.1 ht0.out).1
      replace hp := Lib.hid ((hb1.block _ hlt).trans hp.out)
      replace ht0 := Lib.hid ((hb1.block _ hlt0).trans ht0.out)
      replace hb0 := Lib.hid (hb0.out.trans (hb1.mono hb0.out.size))
      clear hb1 hlt hlt0
      go_wp2_with (first | (refine wpList_load_row rfl 34 (.tmp 6) rfl w4.heap.size #[.int .i64 du, .int .i64 op, .int .i64 tr, .int .i64 un] _ rfl ht0 Tryd.underlying34 rfl (by kernel_rfl) ?_) | (refine wpList_load_row rfl 27 (.tmp 2) rfl w.heap.size #[.int .i64 s, .int .i64 n, .int .i64 k, .int .i64 d, .int .i64 t, .int .i64 r] _ rfl hp Tryd.underlying27 rfl (by kernel_rfl) ?_))
      with_reducible refine (asked_any s n k d t r i du op tr un q (by omega) (by omega) (by omega) _).mono ?_
      rintro e w6 ⟨rfl, hb1⟩
      replace hE := Lib.hid (hE.out.below hb1)
      have hlt := (Array.getElem?_eq_some_iff.1 hp.out).1
      have hlt0 := (Array.getElem?_eq_some_iff.1 ht0.out).1
      replace hp := Lib.hid ((hb1.block _ hlt).trans hp.out)
      replace ht0 := Lib.hid ((hb1.block _ hlt0).trans ht0.out)
      replace hb0 := Lib.hid (hb0.out.trans (hb1.mono hb0.out.size))
      clear hb1 hlt hlt0
      go_wp2_with (first | (refine wpList_store_row rfl 34 (.tmp 6) (.tmp 56) rfl w4.heap.size _ #[.int .i64 (i + d), .int .i64 q, .int .i64 0, .int .i64 (i + t)] rfl rfl ht0 (by kernel_rfl) rfl (by simp [Value.oneCell']) ?_; intro wS hU) | (refine wpList_load_row rfl 34 (.tmp 6) rfl w4.heap.size #[.int .i64 (i + d), .int .i64 q, .int .i64 0, .int .i64 (i + t)] _ rfl (Lib.hid hU.out.here) Tryd.underlying34 rfl (by kernel_rfl) ?_))
      have hB : Below w.heap.size w6 wS := hU.out.below (by omega)
      have hlt := (Array.getElem?_eq_some_iff.1 hp.out).1
      have hp' := (hU.out.block w.heap.size (by omega)).trans hp.out
      replace hE := Lib.hid (hE0.out.below (hb0.out.trans hB))
      replace hp := Lib.hid hp'
      replace ht0 := Lib.hid hU.out.here
      replace hb0 := Lib.hid (hb0.out.trans hB)
      clear hU hB hlt hp'
      with_reducible refine (right_any ((i + d)) (q) (0) ((i + t)) y1 y2 y3 y4 (by have := y5.out; omega) _).mono ?_
      rintro e w7 ⟨rfl, hb1⟩
      replace hE := Lib.hid (hE.out.below hb1)
      have hlt := (Array.getElem?_eq_some_iff.1 hp.out).1
      have hlt0 := (Array.getElem?_eq_some_iff.1 ht0.out).1
      replace hp := Lib.hid ((hb1.block _ hlt).trans hp.out)
      replace ht0 := Lib.hid ((hb1.block _ hlt0).trans ht0.out)
      replace hb0 := Lib.hid (hb0.out.trans (hb1.mono hb0.out.size))
      clear hb1 hlt hlt0
      go_wp2_with fail
      go_roundw
      case rel => exact ⟨l, q + 1, i + 1, i + d, q, 0, i + t, rfl, rfl, by go_num, hN.out, hE.out, hp.out, ht0.out, hb0.out⟩
      case measure => simp [intOf]; omega
    · have hwant : wantOf r i du op tr un = 0 := by unfold wantOf; rw [if_neg (by omega), if_pos (by omega)]
      have hN := hC0.rest hle (by omega)
      have hLate := hN.late (by omega) (by omega)
      obtain ⟨y1, y2, y3, y4, y5⟩ := hN.right
      replace hN := Lib.hid hN
      replace hC0 := Lib.hid hC0
      replace y5 := Lib.hid y5
      go_wp2_with (first | (refine wpList_load_row rfl 34 (.tmp 6) rfl w4.heap.size #[.int .i64 du, .int .i64 op, .int .i64 tr, .int .i64 un] _ rfl ht0 Tryd.underlying34 rfl (by kernel_rfl) ?_) | (refine wpList_load_row rfl 27 (.tmp 2) rfl w.heap.size #[.int .i64 s, .int .i64 n, .int .i64 k, .int .i64 d, .int .i64 t, .int .i64 r] _ rfl hp Tryd.underlying27 rfl (by kernel_rfl) ?_))
      with_reducible refine (wants_any s n k d t r i du op tr un hok.out z _ hE.out).mono ?_
      rintro e w5 ⟨rfl, hb1⟩
      rw [hwant]
      replace hE := Lib.hid (hE.out.below hb1)
      have hlt := (Array.getElem?_eq_some_iff.1 hp.out).1
      have hlt0 := (Array.getElem?_eq_some_iff.1 ht0.out).1
      replace hp := Lib.hid ((hb1.block _ hlt).trans hp.out)
      replace ht0 := Lib.hid ((hb1.block _ hlt0).trans ht0.out)
      replace hb0 := Lib.hid (hb0.out.trans (hb1.mono hb0.out.size))
      clear hb1 hlt hlt0
      go_wp2_with (first | (refine wpList_load_row rfl 34 (.tmp 6) rfl w4.heap.size #[.int .i64 du, .int .i64 op, .int .i64 tr, .int .i64 un] _ rfl ht0 Tryd.underlying34 rfl (by kernel_rfl) ?_))
      with_reducible refine (right_any (du) (op) (tr) (un) y1 y2 y3 y4 (by have := y5.out; omega) _).mono ?_
      rintro e w7 ⟨rfl, hb1⟩
      replace hE := Lib.hid (hE.out.below hb1)
      have hlt := (Array.getElem?_eq_some_iff.1 hp.out).1
      have hlt0 := (Array.getElem?_eq_some_iff.1 ht0.out).1
      replace hp := Lib.hid ((hb1.block _ hlt).trans hp.out)
      replace ht0 := Lib.hid ((hb1.block _ hlt0).trans ht0.out)
      replace hb0 := Lib.hid (hb0.out.trans (hb1.mono hb0.out.size))
      clear hb1 hlt hlt0
      go_wp2_with fail
      go_roundw
      case rel => exact ⟨l, q, i + 1, du, op, tr, un, rfl, rfl, by go_num, hN.out, hE.out, hp.out, ht0.out, hb0.out⟩
      case measure => simp [intOf]; omega
    · have hwant : wantOf r i du op tr un = 0 := by unfold wantOf; rw [if_neg (by omega), if_pos (by omega)]
      have hN := hC0.rest hle (by omega)
      have hLate := hN.late (by omega) (by omega)
      obtain ⟨y1, y2, y3, y4, y5⟩ := hN.right
      replace hN := Lib.hid hN
      replace hC0 := Lib.hid hC0
      replace y5 := Lib.hid y5
      go_wp2_with (first | (refine wpList_load_row rfl 34 (.tmp 6) rfl w4.heap.size #[.int .i64 du, .int .i64 op, .int .i64 tr, .int .i64 un] _ rfl ht0 Tryd.underlying34 rfl (by kernel_rfl) ?_) | (refine wpList_load_row rfl 27 (.tmp 2) rfl w.heap.size #[.int .i64 s, .int .i64 n, .int .i64 k, .int .i64 d, .int .i64 t, .int .i64 r] _ rfl hp Tryd.underlying27 rfl (by kernel_rfl) ?_))
      with_reducible refine (wants_any s n k d t r i du op tr un hok.out z _ hE.out).mono ?_
      rintro e w5 ⟨rfl, hb1⟩
      rw [hwant]
      replace hE := Lib.hid (hE.out.below hb1)
      have hlt := (Array.getElem?_eq_some_iff.1 hp.out).1
      have hlt0 := (Array.getElem?_eq_some_iff.1 ht0.out).1
      replace hp := Lib.hid ((hb1.block _ hlt).trans hp.out)
      replace ht0 := Lib.hid ((hb1.block _ hlt0).trans ht0.out)
      replace hb0 := Lib.hid (hb0.out.trans (hb1.mono hb0.out.size))
      clear hb1 hlt hlt0
      go_wp2_with (first | (refine wpList_load_row rfl 34 (.tmp 6) rfl w4.heap.size #[.int .i64 du, .int .i64 op, .int .i64 tr, .int .i64 un] _ rfl ht0 Tryd.underlying34 rfl (by kernel_rfl) ?_))
      with_reducible refine (right_any (du) (op) (tr) (un) y1 y2 y3 y4 (by have := y5.out; omega) _).mono ?_
      rintro e w7 ⟨rfl, hb1⟩
      replace hE := Lib.hid (hE.out.below hb1)
      have hlt := (Array.getElem?_eq_some_iff.1 hp.out).1
      have hlt0 := (Array.getElem?_eq_some_iff.1 ht0.out).1
      replace hp := Lib.hid ((hb1.block _ hlt).trans hp.out)
      replace ht0 := Lib.hid ((hb1.block _ hlt0).trans ht0.out)
      replace hb0 := Lib.hid (hb0.out.trans (hb1.mono hb0.out.size))
      clear hb1 hlt hlt0
      go_wp2_with fail
      go_roundw
      case rel => exact ⟨l, q, i + 1, du, op, tr, un, rfl, rfl, by go_num, hN.out, hE.out, hp.out, ht0.out, hb0.out⟩
      case measure => simp [intOf]; omega
    · have hwant : wantOf r i du op tr un = 2 := by unfold wantOf; rw [if_neg (by omega), if_neg (by omega), if_pos (by omega)]
      have hN := hC0.again hle (by omega) (by omega) (by omega) (by omega) (by omega)
      have hLate := hN.late (by omega) (by omega)
      obtain ⟨y1, y2, y3, y4, y5⟩ := hN.right
      replace hN := Lib.hid hN
      replace hC0 := Lib.hid hC0
      replace y5 := Lib.hid y5
      go_wp2_with (first | (refine wpList_load_row rfl 34 (.tmp 6) rfl w4.heap.size #[.int .i64 du, .int .i64 op, .int .i64 tr, .int .i64 un] _ rfl ht0 Tryd.underlying34 rfl (by kernel_rfl) ?_) | (refine wpList_load_row rfl 27 (.tmp 2) rfl w.heap.size #[.int .i64 s, .int .i64 n, .int .i64 k, .int .i64 d, .int .i64 t, .int .i64 r] _ rfl hp Tryd.underlying27 rfl (by kernel_rfl) ?_))
      with_reducible refine (wants_any s n k d t r i du op tr un hok.out z _ hE.out).mono ?_
      rintro e w5 ⟨rfl, hb1⟩
      rw [hwant]
      replace hE := Lib.hid (hE.out.below hb1)
      have hlt := (Array.getElem?_eq_some_iff.1 hp.out).1
      have hlt0 := (Array.getElem?_eq_some_iff.1 ht0.out).1
      replace hp := Lib.hid ((hb1.block _ hlt).trans hp.out)
      replace ht0 := Lib.hid ((hb1.block _ hlt0).trans ht0.out)
      replace hb0 := Lib.hid (hb0.out.trans (hb1.mono hb0.out.size))
      clear hb1 hlt hlt0
      go_wp2_with (first | (refine wpList_load_row rfl 34 (.tmp 6) rfl w4.heap.size #[.int .i64 du, .int .i64 op, .int .i64 tr, .int .i64 un] _ rfl ht0 Tryd.underlying34 rfl (by kernel_rfl) ?_) | (refine wpList_load_row rfl 27 (.tmp 2) rfl w.heap.size #[.int .i64 s, .int .i64 n, .int .i64 k, .int .i64 d, .int .i64 t, .int .i64 r] _ rfl hp Tryd.underlying27 rfl (by kernel_rfl) ?_))
      with_reducible refine (again_any s n k d t r i du op tr un (by omega) (by omega) (by omega) _).mono ?_
      rintro e w6 ⟨rfl, hb1⟩
      replace hE := Lib.hid (hE.out.below hb1)
      have hlt := (Array.getElem?_eq_some_iff.1 hp.out).1
      have hlt0 := (Array.getElem?_eq_some_iff.1 ht0.out).1
      replace hp := Lib.hid ((hb1.block _ hlt).trans hp.out)
      replace ht0 := Lib.hid ((hb1.block _ hlt0).trans ht0.out)
      replace hb0 := Lib.hid (hb0.out.trans (hb1.mono hb0.out.size))
      clear hb1 hlt hlt0
      go_wp2_with (first | (refine wpList_store_row rfl 34 (.tmp 6) (.tmp 64) rfl w4.heap.size _ #[.int .i64 du, .int .i64 op, .int .i64 (tr + 1), .int .i64 (i + t)] rfl rfl ht0 (by kernel_rfl) rfl (by simp [Value.oneCell']) ?_; intro wS hU) | (refine wpList_load_row rfl 34 (.tmp 6) rfl w4.heap.size #[.int .i64 du, .int .i64 op, .int .i64 (tr + 1), .int .i64 (i + t)] _ rfl (Lib.hid hU.out.here) Tryd.underlying34 rfl (by kernel_rfl) ?_))
      have hB : Below w.heap.size w6 wS := hU.out.below (by omega)
      have hlt := (Array.getElem?_eq_some_iff.1 hp.out).1
      have hp' := (hU.out.block w.heap.size (by omega)).trans hp.out
      replace hE := Lib.hid (hE0.out.below (hb0.out.trans hB))
      replace hp := Lib.hid hp'
      replace ht0 := Lib.hid hU.out.here
      replace hb0 := Lib.hid (hb0.out.trans hB)
      clear hU hB hlt hp'
      with_reducible refine (right_any (du) (op) ((tr + 1)) ((i + t)) y1 y2 y3 y4 (by have := y5.out; omega) _).mono ?_
      rintro e w7 ⟨rfl, hb1⟩
      replace hE := Lib.hid (hE.out.below hb1)
      have hlt := (Array.getElem?_eq_some_iff.1 hp.out).1
      have hlt0 := (Array.getElem?_eq_some_iff.1 ht0.out).1
      replace hp := Lib.hid ((hb1.block _ hlt).trans hp.out)
      replace ht0 := Lib.hid ((hb1.block _ hlt0).trans ht0.out)
      replace hb0 := Lib.hid (hb0.out.trans (hb1.mono hb0.out.size))
      clear hb1 hlt hlt0
      go_wp2_with fail
      go_roundw
      case rel => exact ⟨l, q, i + 1, du, op, tr + 1, i + t, rfl, rfl, by go_num, hN.out, hE.out, hp.out, ht0.out, hb0.out⟩
      case measure => simp [intOf]; omega
    · have hwant : wantOf r i du op tr un = 3 := by unfold wantOf; rw [if_neg (by omega), if_neg (by omega), if_neg (by omega)]
      obtain ⟨hS, hN⟩ := hC0.stop hle (by omega) (by omega) (by omega) (by omega)
      have hLate := hN.late (by omega) (by omega)
      obtain ⟨y1, y2, y3, y4, y5⟩ := hN.right
      replace hN := Lib.hid hN
      replace hC0 := Lib.hid hC0
      replace y5 := Lib.hid y5
      go_wp2_with (first | (refine wpList_load_row rfl 34 (.tmp 6) rfl w4.heap.size #[.int .i64 du, .int .i64 op, .int .i64 tr, .int .i64 un] _ rfl ht0 Tryd.underlying34 rfl (by kernel_rfl) ?_) | (refine wpList_load_row rfl 27 (.tmp 2) rfl w.heap.size #[.int .i64 s, .int .i64 n, .int .i64 k, .int .i64 d, .int .i64 t, .int .i64 r] _ rfl hp Tryd.underlying27 rfl (by kernel_rfl) ?_))
      with_reducible refine (wants_any s n k d t r i du op tr un hok.out z _ hE.out).mono ?_
      rintro e w5 ⟨rfl, hb1⟩
      rw [hwant]
      replace hE := Lib.hid (hE.out.below hb1)
      have hlt := (Array.getElem?_eq_some_iff.1 hp.out).1
      have hlt0 := (Array.getElem?_eq_some_iff.1 ht0.out).1
      replace hp := Lib.hid ((hb1.block _ hlt).trans hp.out)
      replace ht0 := Lib.hid ((hb1.block _ hlt0).trans ht0.out)
      replace hb0 := Lib.hid (hb0.out.trans (hb1.mono hb0.out.size))
      clear hb1 hlt hlt0
      go_wp2_with (first | (refine wpList_load_row rfl 34 (.tmp 6) rfl w4.heap.size #[.int .i64 du, .int .i64 op, .int .i64 tr, .int .i64 un] _ rfl ht0 Tryd.underlying34 rfl (by kernel_rfl) ?_) | (refine wpList_load_row rfl 27 (.tmp 2) rfl w.heap.size #[.int .i64 s, .int .i64 n, .int .i64 k, .int .i64 d, .int .i64 t, .int .i64 r] _ rfl hp Tryd.underlying27 rfl (by kernel_rfl) ?_))
      with_reducible refine (closed_any du op tr un _).mono ?_
      rintro e w6 ⟨rfl, hb1⟩
      replace hE := Lib.hid (hE.out.below hb1)
      have hlt := (Array.getElem?_eq_some_iff.1 hp.out).1
      have hlt0 := (Array.getElem?_eq_some_iff.1 ht0.out).1
      replace hp := Lib.hid ((hb1.block _ hlt).trans hp.out)
      replace ht0 := Lib.hid ((hb1.block _ hlt0).trans ht0.out)
      replace hb0 := Lib.hid (hb0.out.trans (hb1.mono hb0.out.size))
      clear hb1 hlt hlt0
      go_wp2_with (first | (refine wpList_store_row rfl 34 (.tmp 6) (.tmp 74) rfl w4.heap.size _ #[.int .i64 du, .int .i64 (-1), .int .i64 0, .int .i64 0] rfl rfl ht0 (by kernel_rfl) rfl (by simp [Value.oneCell']) ?_; intro wS hU) | (refine wpList_load_row rfl 34 (.tmp 6) rfl w4.heap.size #[.int .i64 du, .int .i64 (-1), .int .i64 0, .int .i64 0] _ rfl (Lib.hid hU.out.here) Tryd.underlying34 rfl (by kernel_rfl) ?_))
      have hB : Below w.heap.size w6 wS := hU.out.below (by omega)
      have hlt := (Array.getElem?_eq_some_iff.1 hp.out).1
      have hp' := (hU.out.block w.heap.size (by omega)).trans hp.out
      replace hE := Lib.hid (hE0.out.below (hb0.out.trans hB))
      replace hp := Lib.hid hp'
      replace ht0 := Lib.hid hU.out.here
      replace hb0 := Lib.hid (hb0.out.trans hB)
      clear hU hB hlt hp'
      with_reducible refine (right_any (du) ((-1)) (0) (0) y1 y2 y3 y4 (by have := y5.out; omega) _).mono ?_
      rintro e w7 ⟨rfl, hb1⟩
      replace hE := Lib.hid (hE.out.below hb1)
      have hlt := (Array.getElem?_eq_some_iff.1 hp.out).1
      have hlt0 := (Array.getElem?_eq_some_iff.1 ht0.out).1
      replace hp := Lib.hid ((hb1.block _ hlt).trans hp.out)
      replace ht0 := Lib.hid ((hb1.block _ hlt0).trans ht0.out)
      replace hb0 := Lib.hid (hb0.out.trans (hb1.mono hb0.out.size))
      clear hb1 hlt hlt0
      go_wp2_with fail
      go_roundw
      case rel => exact ⟨i, q, i + 1, du, (-1), 0, 0, rfl, rfl, by go_num, hN.out, hE.out, hp.out, ht0.out, hb0.out⟩
      case measure => simp [intOf]; omega

theorem windows_walk (s n k d t r f0 : Int) (w : World) (_ : (Lit.int .i64 s).wf = true) (hn : (Lit.int .i64 n).wf = true) (_ : (Lit.int .i64 k).wf = true) (_ : (Lit.int .i64 d).wf = true) (_ : (Lit.int .i64 t).wf = true) (_ : (Lit.int .i64 r).wf = true) (_ : (Lit.int .i64 f0).wf = true) (z : Nat → Addr) (hE : ParErrs w z) (hW : WordsAt w) :
    Calls Tryd.prog 4 #[.agg #[.int .i64 s, .int .i64 n, .int .i64 k, .int .i64 d, .int .i64 t, .int .i64 r], .int .i64 f0] w fun e w' => e = .returned (.bool true) ∧ Below w.heap.size w w' :=
  windows_walk_in s n k d t r f0 w z (by simpa [Lit.wf, IntKind.min, IntKind.max, IntKind.signed, IntKind.bits] using hn) hE hW

end Go.Proofs.YtkdkecmldekokaaDoor
