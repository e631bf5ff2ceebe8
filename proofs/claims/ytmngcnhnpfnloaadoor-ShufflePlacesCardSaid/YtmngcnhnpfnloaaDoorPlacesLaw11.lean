/- The walk over baileelaw11.ShufflePlaces: for whatever arguments it returns true and leaves what was there as it was. -/
import Derived.Test.YtmngcnhnpfnloaaDoorStepsLaw
namespace Go.Proofs.YtmngcnhnpfnloaaDoor
open Go.RowKit

set_option maxRecDepth 10000 in
set_option maxHeartbeats 8000000 in
theorem places_walk (a1 : Option Addr) (c1 : Nat) (key : List UInt8) (n i : Int) (z : Nat → Addr) (w : World) (h1 : ArgB w a1 c1 key) (hi63 : i ≤ 9223372036854775807) (hi64 : -9223372036854775808 ≤ i) (hW : ShW z w) :
    Calls Tryd.prog 6 #[.slice a1 key.length c1, .int .i64 n, .int .i64 i] w fun e w' => e = .returned (.bool true) ∧ Below w.heap.size w w' := by
  have hal := Lib.hid (alive11_any w hW.K hW.F)
  have hx1 : key.length ≤ 9223372036854775807 := by have := h1.len; have := h1.most; unfold maxLen at *; omega
  by_cases hk : 200 < key.length
  · have hki : (200 : Int) < key.length := by omega
    go_enter Tryd.func6, Tryd.ntmps6
    go_wp2_with fail
    with_reducible refine hal.out.mono ?_
    rintro e w1 ⟨rfl, hb1⟩
    replace hb1 := Lib.hid hb1
    go_wp2_with fail
    go_ret
    exact ⟨rfl, hb1.out⟩
  · have hki : ¬ (200 : Int) < key.length := by omega
    by_cases hn : n < 1 ∨ 1048576 < n
    · have hst := Lib.hid (fun a W A => new_bad a n W (z 0) A hn)
      have hd : ∃ b1 b2 : Bool, decide (n < 1) = b1 ∧ decide (1048576 < n) = b2 ∧ (b1 || b2) = true := by
        refine ⟨_, _, rfl, rfl, ?_⟩
        simp only [Bool.or_eq_true, decide_eq_true_eq]
        omega
      obtain ⟨b1, b2, e1, e2, e4⟩ := hd
      clear hn
      cases b1 <;> cases b2 <;> simp at e4
      all_goals
        go_enter Tryd.func6, Tryd.ntmps6
        go_wp2_with fail
        with_reducible refine hal.out.mono ?_
        rintro e w1 ⟨rfl, hb1⟩
        replace hW := Lib.hid (hW.below hb1)
        replace hb1 := Lib.hid hb1
        go_wp2_with fail
        with_reducible refine (hst.out _ _ hW.out.range).mono ?_
        rintro e w2 ⟨rfl, hnew⟩
        replace hW := Lib.hid (hW.out.below hnew)
        replace hb1 := Lib.hid (hb1.out.trans (hnew.mono hb1.out.size))
        clear hnew
        go_wp2_with fail
        with_reducible refine (num_err 0 (by omega) z _ hW.out.er).mono ?_
        rintro e w3 ⟨rfl, hnew⟩
        replace hb1 := Lib.hid (hb1.out.trans (hnew.mono hb1.out.size))
        clear hnew
        go_wp2_with fail
        go_ret
        exact ⟨rfl, hb1.out⟩
    · obtain ⟨N, rfl⟩ : ∃ N : Nat, n = (N : Int) := ⟨n.toNat, by omega⟩
      have hN1 : 1 ≤ N := by omega
      have hN2 : N ≤ 1048576 := by omega
      have hN1i : (1 : Int) ≤ N := by omega
      have hN2i : (N : Int) ≤ 1048576 := by omega
      obtain ⟨hB1, hB2, hB3⟩ := bitsN_all hN2
      have hbi := Lib.hid (fun W => rBits_any N W hN1 hN2)
      have hrt := Lib.hid (fun X (hX : X < N) W A C D => rTo_any a1 c1 key N X W A (by omega) hN1 hN2 hX C D)
      replace hB3 := Lib.hid hB3
      have hnew1 := Lib.hid (fun W A C D => new_ok a1 c1 key N W A (by omega) hN1 hN2 C D)
      generalize bitsN N = B at *
      clear hn
      by_cases hi : i < 0 ∨ (N : Int) ≤ i
      · have hto := Lib.hid (fun b W A C => oTo_bad b key N B i W (z 0) A C hi)
        have hfr := Lib.hid (fun b W A C => oFrom_bad b key N B i W (z 0) A C hi)
        have hd : ∃ b1 b2 : Bool, decide (i < 0) = b1 ∧ decide ((N : Int) ≤ i) = b2 ∧ (b1 || b2) = true := by
          refine ⟨_, _, rfl, rfl, ?_⟩
          simp only [Bool.or_eq_true, decide_eq_true_eq]
          omega
        obtain ⟨b1, b2, e1, e2, e4⟩ := hd
        clear hi
        cases b1 <;> cases b2 <;> simp at e4
        all_goals
          go_enter Tryd.func6, Tryd.ntmps6
          go_wp2_with fail
          with_reducible refine hal.out.mono ?_
          rintro e w1 ⟨rfl, hb1⟩
          replace h1 := Lib.hid (h1.below hb1); replace hW := Lib.hid (hW.below hb1)
          replace hb1 := Lib.hid hb1
          go_wp2_with fail
          with_reducible refine (hnew1.out _ h1.out hW.out.K hW.out.F).mono ?_
          rintro e w2 ⟨b, rfl, hO, hnew⟩
          replace h1 := Lib.hid (h1.out.below hnew); replace hW := Lib.hid (hW.out.below hnew)
          replace hO := Lib.hid hO
          replace hb1 := Lib.hid (hb1.out.trans (hnew.mono hb1.out.size))
          clear hnew
          go_wp2_with fail
          with_reducible refine (size_any b key N B _ hO.out).mono ?_
          rintro e w3 ⟨rfl, rfl⟩
          go_wp2_with fail
          with_reducible refine (bits_any b key N B _ hO.out).mono ?_
          rintro e w3 ⟨rfl, rfl⟩
          go_wp2_with fail
          with_reducible refine (hbi.out _).mono ?_
          rintro e w3 ⟨rfl, rfl⟩
          go_wp2_with fail
          with_reducible refine (hto.out b _ hW.out.range hO.out).mono ?_
          rintro e w4 ⟨rfl, hnew⟩
          replace hW := Lib.hid (hW.out.below hnew); replace hO := Lib.hid (hO.out.below hnew)
          replace hb1 := Lib.hid (hb1.out.trans (hnew.mono hb1.out.size))
          clear hnew
          go_wp2_with fail
          with_reducible refine (hfr.out b _ hW.out.range hO.out).mono ?_
          rintro e w5 ⟨rfl, hnew⟩
          replace hW := Lib.hid (hW.out.below hnew)
          replace hb1 := Lib.hid (hb1.out.trans (hnew.mono hb1.out.size))
          clear hnew
          go_wp2_with fail
          with_reducible refine (num_err 0 (by omega) z _ hW.out.er).mono ?_
          rintro e w6 ⟨rfl, hnew⟩
          replace hW := Lib.hid (hW.out.below hnew)
          replace hb1 := Lib.hid (hb1.out.trans (hnew.mono hb1.out.size))
          clear hnew
          go_wp2_with fail
          with_reducible refine (num_err 0 (by omega) z _ hW.out.er).mono ?_
          rintro e w7 ⟨rfl, hnew⟩
          replace hb1 := Lib.hid (hb1.out.trans (hnew.mono hb1.out.size))
          clear hnew
          go_wp2_with fail
          go_ret
          exact ⟨rfl, hb1.out⟩
      · obtain ⟨m, rfl⟩ : ∃ m : Nat, i = (m : Int) := ⟨i.toNat, by omega⟩
        have hm : m < N := by omega
        have hmi : (m : Int) < N := by omega
        have f1 := stepN_lt (rnd_lt key B)
        have f2 := backN_lt (rnd_lt key B)
        have g1 := back_step (rnd_lt key B)
        have g2 := step_back (rnd_lt key B)
        have hp := place_lt f1 g1 hB3.out hm
        have hq := place_lt f2 g2 hB3.out hm
        have hpq := place_back f1 g1 hB3.out hm
        have hqp := place_back f2 g2 hB3.out hm
        have hto := Lib.hid (fun b W A C D => oTo_any b key N B m W A hm hB3.out hB1 hB2 C D)
        have hfr := Lib.hid (fun b W A C D => oFrom_any b key N B m W A hm hB3.out hB1 hB2 C D)
        have hfp := fun b W A C D => oFrom_any b key N B (place (stepN (rnd key B) B) N (2 ^ (2 * B)) m) W A hp hB3.out hB1 hB2 C D
        have hr1 := Lib.hid (hrt.out m hm)
        have hr2 := hrt.out (place (backN (rnd key B) B) N (2 ^ (2 * B)) m) hq
        rw [hpq] at hfp
        rw [hqp] at hr2
        have hqd : decide (place (backN (rnd key B) B) N (2 ^ (2 * B)) m < N) = true := by simp; omega
        replace hp := Lib.hid hp; replace hq := Lib.hid hq; replace hpq := Lib.hid hpq; replace hqp := Lib.hid hqp; replace f1 := Lib.hid f1; replace f2 := Lib.hid f2; replace g1 := Lib.hid g1; replace g2 := Lib.hid g2; replace hfp := Lib.hid hfp; replace hr2 := Lib.hid hr2; replace hm := Lib.hid hm
        generalize place (stepN (rnd key B) B) N (2 ^ (2 * B)) m = p at *
        generalize place (backN (rnd key B) B) N (2 ^ (2 * B)) m = q at *
        clear hi
        go_enter Tryd.func6, Tryd.ntmps6
        go_wp2_with fail
        with_reducible refine hal.out.mono ?_
        rintro e w1 ⟨rfl, hb1⟩
        replace h1 := Lib.hid (h1.below hb1); replace hW := Lib.hid (hW.below hb1)
        replace hb1 := Lib.hid hb1
        go_wp2_with fail
        with_reducible refine (hnew1.out _ h1.out hW.out.K hW.out.F).mono ?_
        rintro e w2 ⟨b, rfl, hO, hnew⟩
        replace h1 := Lib.hid (h1.out.below hnew); replace hW := Lib.hid (hW.out.below hnew)
        replace hO := Lib.hid hO
        replace hb1 := Lib.hid (hb1.out.trans (hnew.mono hb1.out.size))
        clear hnew
        go_wp2_with fail
        with_reducible refine (size_any b key N B _ hO.out).mono ?_
        rintro e w3 ⟨rfl, rfl⟩
        go_wp2_with fail
        with_reducible refine (bits_any b key N B _ hO.out).mono ?_
        rintro e w3 ⟨rfl, rfl⟩
        go_wp2_with fail
        with_reducible refine (hbi.out _).mono ?_
        rintro e w3 ⟨rfl, rfl⟩
        go_wp2_with fail
        with_reducible refine (hto.out b _ hO.out hW.out.K hW.out.F).mono ?_
        rintro e w4 ⟨rfl, hnew⟩
        replace h1 := Lib.hid (h1.out.below hnew); replace hW := Lib.hid (hW.out.below hnew); replace hO := Lib.hid (hO.out.below hnew)
        replace hb1 := Lib.hid (hb1.out.trans (hnew.mono hb1.out.size))
        clear hnew
        go_wp2_with fail
        with_reducible refine (hfr.out b _ hO.out hW.out.K hW.out.F).mono ?_
        rintro e w5 ⟨rfl, hnew⟩
        replace h1 := Lib.hid (h1.out.below hnew); replace hW := Lib.hid (hW.out.below hnew); replace hO := Lib.hid (hO.out.below hnew)
        replace hb1 := Lib.hid (hb1.out.trans (hnew.mono hb1.out.size))
        clear hnew
        go_wp2_with fail
        with_reducible refine (hfp.out b _ hO.out hW.out.K hW.out.F).mono ?_
        rintro e w6 ⟨rfl, hnew⟩
        replace h1 := Lib.hid (h1.out.below hnew); replace hW := Lib.hid (hW.out.below hnew)
        replace hb1 := Lib.hid (hb1.out.trans (hnew.mono hb1.out.size))
        clear hnew
        go_wp2_with fail
        with_reducible refine (hr1.out _ h1.out hW.out.rK hW.out.rF).mono ?_
        rintro e w7 ⟨rfl, hnew⟩
        replace h1 := Lib.hid (h1.out.below hnew); replace hW := Lib.hid (hW.out.below hnew)
        replace hb1 := Lib.hid (hb1.out.trans (hnew.mono hb1.out.size))
        clear hnew
        go_wp2_with fail
        with_reducible refine (hr2.out _ h1.out hW.out.rK hW.out.rF).mono ?_
        rintro e w8 ⟨rfl, hnew⟩
        replace hb1 := Lib.hid (hb1.out.trans (hnew.mono hb1.out.size))
        clear hnew
        go_wp2_with fail
        go_ret
        exact ⟨rfl, hb1.out⟩

theorem places_law (a1 : Option Addr) (c1 : Nat) (key : List UInt8) (n i : Int) (w : World) (h1 : ArgB w a1 c1 key) (_ : (Lit.int IntKind.i64 n).wf = true) (hi : (Lit.int IntKind.i64 i).wf = true)
    (z : Nat → Addr) (er : Errs 104 errGs w z) (hK : ShaK w) (hF : ShaF w) (hRK : RefK w) (hRF : RefF w) :
    Calls Tryd.prog 6 #[.slice a1 key.length c1, .int .i64 n, .int .i64 i] w fun e w' => e = .returned (.bool true) ∧ Below w.heap.size w w' := by
  have hx : -9223372036854775808 ≤ i ∧ i ≤ 9223372036854775807 := by simpa [Lit.wf, IntKind.min, IntKind.max, IntKind.signed, IntKind.bits] using hi
  exact places_walk a1 c1 key n i z w h1 hx.2 hx.1 ⟨hK, hF, hRK, hRF, er⟩

end Go.Proofs.YtmngcnhnpfnloaaDoor
