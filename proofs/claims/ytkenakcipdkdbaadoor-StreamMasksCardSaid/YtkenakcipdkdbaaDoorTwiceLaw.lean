/- The walk over baileelaw10.StreamTwice: for whatever arguments it returns true and leaves what was there as it was. -/
import Derived.Test.YtkenakcipdkdbaaDoorTwicePlain
import Derived.Test.YtkenakcipdkdbaaDoorSameL
namespace Go.Proofs.YtkenakcipdkdbaaDoor
open Go.RowKit

theorem eOf_nil (zr zs : Addr) (b : Int) (h : b = 0) : eOf zr zs b = .nilIface := by unfold eOf; rw [if_pos h]
theorem eOf_err (zr zs : Addr) (b : Int) (h : b ≠ 0) : ∃ z, eOf zr zs b = .iface 108 (.pointer (some z)) := by unfold eOf; rw [if_neg h]; exact ⟨_, rfl⟩

set_option maxRecDepth 10000 in
set_option maxHeartbeats 4000000 in
theorem twice_walk (a1 : Option Addr) (c1 : Nat) (key : List UInt8) (n : Int) (a2 : Option Addr) (c2 : Nat) (ps : List (List UInt8)) (zr zs : Addr) (w : World) (h1 : ArgB w a1 c1 key) (h2 : ArgBB w a2 c2 ps) (hW : StrM zr zs w) :
    Calls Tryd.prog 3 #[.slice a1 key.length c1, .int .i64 n, .slice a2 ps.length c2] w fun e w' => e = .returned (.bool true) ∧ Below w.heap.size w w' := by
  have hal := Lib.hid (alive10_any w hW.K hW.F)
  have hx1 : key.length ≤ 9223372036854775807 := by have := h1.len; have := h1.most; unfold maxLen at *; omega
  have hx2 : ps.length ≤ 9223372036854775807 := by have := h2.len; have := h2.most; unfold maxLen at *; omega
  by_cases hbig : 200 < key.length ∨ 20 < ps.length
  · have hd : ∃ b1 b2 : Bool, decide (200 < (key.length : Int)) = b1 ∧ decide (20 < (ps.length : Int)) = b2 ∧ (b1 || b2) = true := by
      refine ⟨_, _, rfl, rfl, ?_⟩
      simp only [Bool.or_eq_true, decide_eq_true_eq]
      omega
    obtain ⟨b1, b2, e1, e2, e4⟩ := hd
    cases b1 <;> cases b2 <;> simp at e4
    all_goals
      go_enter Tryd.func3, Tryd.ntmps3
      go_wp2_with fail
      with_reducible refine hal.out.mono ?_
      rintro e w1 ⟨rfl, hb1⟩
      replace hb1 := Lib.hid hb1
      go_wp2_with fail
      go_ret
      exact ⟨rfl, hb1.out⟩
  · have hk : ¬ 200 < (key.length : Int) := by omega
    have hm : ¬ 20 < (ps.length : Int) := by omega
    have hk2 : key.length ≤ 200 := by omega
    have hm2 : ps.length ≤ 20 := by omega
    clear hbig
    go_enter Tryd.func3, Tryd.ntmps3
    go_wp2_with fail
    with_reducible refine hal.out.mono ?_
    rintro e w1 ⟨rfl, hb1⟩
    replace h1 := Lib.hid (h1.below hb1); replace h2 := Lib.hid (h2.below hb1); replace hW := Lib.hid (hW.below hb1)
    replace hb1 := Lib.hid hb1
    clear hal
    go_wp2_with fail
    go_loop [8, 24] (fun _ j => ∃ i : Nat, i ≤ ps.length ∧ j = .int .i64 i) (fun _ j => ps.length - (intOf j).toNat)
    case atStart => exact ⟨0, Nat.zero_le _, rfl⟩
    case round =>
      obtain ⟨i, hi, rfl⟩ := hrel
      by_cases hlt : i < ps.length
      · obtain ⟨g2, o2, rfl, ai, ci, hc, hr⟩ := h2.out.row i hlt
        have hli : (i : Int) < ps.length := by omega
        replace hr := Lib.hid hr
        by_cases h40 : 40 < (ps.getD i []).length
        · have h40i : (40 : Int) < ((ps.getD i []).length : Int) := by omega
          generalize ps.getD i [] = bs at *
          go_wp2_with fail
          go_ret
          exact ⟨rfl, hb1.out⟩
        · have h40i : ¬ (40 : Int) < ((ps.getD i []).length : Int) := by omega
          generalize ps.getD i [] = bs at *
          go_wp2_with fail
          exact ⟨⟨i + 1, by omega, by go_num⟩, by simp [intOf]; omega⟩
      · obtain rfl : i = ps.length := by omega
        have hmk := Lib.hid (masks_any a1 c1 key n a2 c2 ps zr zs _ h1.out (by omega) h2.out (by omega) hW.out)
        go_wp2_with fail
        with_reducible refine hmk.out.mono ?_
        rintro e w2 ⟨a3, c3, rfl, h3, hnew⟩
        replace h1 := Lib.hid (h1.out.below hnew); replace h2 := Lib.hid (h2.out.below hnew); replace hW := Lib.hid (hW.out.below hnew)
        replace hb1 := Lib.hid (hb1.out.trans (hnew.mono hb1.out.size))
        clear hnew hmk
        by_cases hz : sB n ps ps.length = 0
        · have hsl : sL key n ps = sW key n ps ps.length := by unfold sL; rw [if_pos hz]
          have hll := sW_length (key := key) ps.length hz
          obtain ⟨ht1, ht2⟩ := twice (key := key) hz
          rw [hsl] at h3 ⊢
          rw [eOf_nil _ _ _ hz]
          have hmk := masks_any a1 c1 key n a3 c3 (sW key n ps ps.length) zr zs _ h1.out (by omega) h3 (by omega) hW.out
          have hsl2 : sL key n (sW key n ps ps.length) = ps := by unfold sL; rw [hll, if_pos ht1, ht2]
          rw [hsl2] at hmk
          rw [hll] at hmk ⊢
          rw [eOf_nil _ _ _ ht1] at hmk
          replace hmk := Lib.hid hmk; replace hz := Lib.hid hz; replace hsl := Lib.hid hsl; replace hll := Lib.hid hll; replace ht1 := Lib.hid ht1; replace ht2 := Lib.hid ht2; replace hsl2 := Lib.hid hsl2; replace h3 := Lib.hid h3
          go_wp2_with fail
          with_reducible refine hmk.out.mono ?_
          rintro e w4 ⟨a5, c5, rfl, h5, hnew⟩
          replace h2 := Lib.hid (h2.out.below hnew)
          replace hb1 := Lib.hid (hb1.out.trans (hnew.mono hb1.out.size))
          replace h5 := Lib.hid h5
          clear hnew hmk
          go_wp2_with fail
          with_reducible refine (same_lists a5 c5 a2 c2 ps _ h5.out h2.out).mono ?_
          rintro e w6 ⟨rfl, hnew⟩
          replace hb1 := Lib.hid (hb1.out.trans (hnew.mono hb1.out.size))
          clear hnew
          go_wp2_with fail
          go_ret
          exact ⟨rfl, hb1.out⟩
        · have hsl : sL key n ps = [] := by unfold sL; rw [if_neg hz]
          obtain ⟨zz, hzz⟩ := eOf_err zr zs _ hz
          rw [hsl, hzz]
          replace hz := Lib.hid hz; replace hsl := Lib.hid hsl; replace hzz := Lib.hid hzz; replace h3 := Lib.hid h3
          go_wp2_with fail
          go_ret
          exact ⟨rfl, hb1.out⟩

theorem twice_law (a1 : Option Addr) (c1 : Nat) (key : List UInt8) (n : Int) (a2 : Option Addr) (c2 : Nat) (ps : List (List UInt8)) (w : World) (h1 : ArgB w a1 c1 key) (_ : (Lit.int IntKind.i64 n).wf = true) (h2 : ArgBB w a2 c2 ps)
    (z : Nat → Addr) (er : Errs 108 [1, 0] w z) (hK : ShaK w) (hF : ShaF w) :
    Calls Tryd.prog 3 #[.slice a1 key.length c1, .int .i64 n, .slice a2 ps.length c2] w fun e w' => e = .returned (.bool true) ∧ Below w.heap.size w w' :=
  twice_walk a1 c1 key n a2 c2 ps (z 0) (z 1) w h1 h2 ⟨hK, hF, er.var 0 (by decide), er.var 1 (by decide)⟩

end Go.Proofs.YtkenakcipdkdbaaDoor
