/- The walk over baileelaw11.ShuffleBack: for whatever arguments it returns true and leaves what was there as it was. -/
import Derived.Test.YtmngcnhnpfnloaaDoorAlive11
import Derived.Test.YtmngcnhnpfnloaaDoorSent
namespace Go.Proofs.YtmngcnhnpfnloaaDoor
open Go.RowKit

theorem umod (i : Int) (N : Nat) (h1 : 1 ≤ N) (h2 : N ≤ 1048576) : ∃ m : Nat, m < N ∧ wrap64 ((IntKind.u64.wrap i).tmod (N : Int)) = (m : Int) := by
  have hw : IntKind.u64.wrap i = i % 18446744073709551616 := IntKind.wrap_u64 i
  obtain ⟨U, hU⟩ : ∃ U : Nat, IntKind.u64.wrap i = (U : Int) := ⟨(i % 18446744073709551616).toNat, by rw [hw]; omega⟩
  rw [hU, show ((U : Int).tmod (N : Int)) = ((U % N : Nat) : Int) from rfl]
  have hlt := Nat.mod_lt U (show 0 < N by omega)
  refine ⟨U % N, hlt, ?_⟩
  generalize U % N = y at *
  exact IntWalk.wrap64_in (y : Int) (by omega)

set_option maxRecDepth 10000 in
set_option maxHeartbeats 4000000 in
theorem back_walk (a1 : Option Addr) (c1 : Nat) (key : List UInt8) (n i : Int) (zr : Addr) (w : World) (h1 : ArgB w a1 c1 key) (hn63 : n ≤ 9223372036854775807) (hn64 : -9223372036854775808 ≤ n) (hW : ShM zr w) :
    Calls Tryd.prog 3 #[.slice a1 key.length c1, .int .i64 n, .int .i64 i] w fun e w' => e = .returned (.bool true) ∧ Below w.heap.size w w' := by
  have hal := Lib.hid (alive11_any w hW.K hW.F)
  have hx1 : key.length ≤ 9223372036854775807 := by have := h1.len; have := h1.most; unfold maxLen at *; omega
  by_cases hbig : 200 < key.length ∨ n < 1 ∨ 1048576 < n
  · have hd : ∃ b1 b2 b3 : Bool, decide (200 < (key.length : Int)) = b1 ∧ decide (n < 1) = b2 ∧ decide (1048576 < n) = b3 ∧ (b1 || (b2 || b3)) = true := by
      refine ⟨_, _, _, rfl, rfl, rfl, ?_⟩
      simp only [Bool.or_eq_true, decide_eq_true_eq]
      omega
    obtain ⟨b1, b2, b3, e1, e2, e3, e4⟩ := hd
    clear hbig
    cases b1 <;> cases b2 <;> cases b3 <;> simp at e4
    all_goals
      go_enter Tryd.func3, Tryd.ntmps3
      go_wp2_with fail
      with_reducible refine hal.out.mono ?_
      rintro e w1 ⟨rfl, hb1⟩
      replace hb1 := Lib.hid hb1
      go_wp2_with fail
      go_ret
      exact ⟨rfl, hb1.out⟩
  · have hk : ¬ 200 < (key.length : Int) := by omega
    have hk2 : key.length ≤ 200 := by omega
    obtain ⟨N, rfl⟩ : ∃ N : Nat, n = (N : Int) := ⟨n.toNat, by omega⟩
    have hN1 : 1 ≤ N := by omega
    have hN2 : N ≤ 1048576 := by omega
    have hN1i : (1 : Int) ≤ N := by omega
    have hN2i : (N : Int) ≤ 1048576 := by omega
    obtain ⟨hB1, hB2, hB3⟩ := bitsN_all hN2
    clear hbig
    go_enter Tryd.func3, Tryd.ntmps3
    go_wp2_with fail
    with_reducible refine hal.out.mono ?_
    rintro e w1 ⟨rfl, hb1⟩
    replace h1 := Lib.hid (h1.below hb1); replace hW := Lib.hid (hW.below hb1)
    replace hb1 := Lib.hid hb1
    clear hal
    go_wp2_with fail
    with_reducible refine (new_ok a1 c1 key N _ h1.out (by omega) hN1 hN2 hW.out.K hW.out.F).mono ?_
    rintro e w2 ⟨b, rfl, hO, hnew⟩
    replace h1 := Lib.hid (h1.out.below hnew); replace hW := Lib.hid (hW.out.below hnew)
    replace hb1 := Lib.hid (hb1.out.trans (hnew.mono hb1.out.size))
    replace hO := Lib.hid hO
    clear hnew
    replace hB3 := Lib.hid hB3
    generalize hBN : bitsN N = B at *
    replace hBN := Lib.hid hBN
    go_wp2_with fail
    obtain ⟨m, hm, hmi⟩ := umod i N hN1 hN2
    rw [hmi]
    replace hmi := Lib.hid hmi
    have f1 := stepN_lt (rnd_lt key B)
    have f2 := backN_lt (rnd_lt key B)
    have g1 := back_step (rnd_lt key B)
    have g2 := step_back (rnd_lt key B)
    have hp := place_lt f1 g1 hB3.out hm
    have hq := place_lt f2 g2 hB3.out hm
    have hpq := place_back f1 g1 hB3.out hm
    have hqp := place_back f2 g2 hB3.out hm
    have c1 := Lib.hid (fun W A C D => oTo_any b key N B m W A hm hB3.out hB1 hB2 C D)
    have c2 := Lib.hid (fun W A C D => oFrom_any b key N B m W A hm hB3.out hB1 hB2 C D)
    have c3 := fun W A C D => oFrom_any b key N B (place (stepN (rnd key B) B) N (2 ^ (2 * B)) m) W A hp hB3.out hB1 hB2 C D
    have c4 := fun W A C D => oTo_any b key N B (place (backN (rnd key B) B) N (2 ^ (2 * B)) m) W A hq hB3.out hB1 hB2 C D
    rw [hpq] at c3
    rw [hqp] at c4
    have hpi : decide (N ≤ place (stepN (rnd key B) B) N (2 ^ (2 * B)) m) = false := by simp; omega
    have hqi : decide (N ≤ place (backN (rnd key B) B) N (2 ^ (2 * B)) m) = false := by simp; omega
    have hmi2 : (m : Int) ≤ 1048576 := by omega
    replace hp := Lib.hid hp; replace hq := Lib.hid hq; replace hpq := Lib.hid hpq; replace hqp := Lib.hid hqp; replace f1 := Lib.hid f1; replace f2 := Lib.hid f2; replace g1 := Lib.hid g1; replace g2 := Lib.hid g2; replace c3 := Lib.hid c3; replace c4 := Lib.hid c4; replace hm := Lib.hid hm
    generalize place (stepN (rnd key B) B) N (2 ^ (2 * B)) m = p at *
    generalize place (backN (rnd key B) B) N (2 ^ (2 * B)) m = q at *
    with_reducible refine (c1.out _ hO.out hW.out.K hW.out.F).mono ?_
    rintro e w3 ⟨rfl, hnew⟩
    replace h1 := Lib.hid (h1.out.below hnew); replace hW := Lib.hid (hW.out.below hnew); replace hO := Lib.hid (hO.out.below hnew)
    replace hb1 := Lib.hid (hb1.out.trans (hnew.mono hb1.out.size))
    clear hnew
    go_wp2_with fail
    with_reducible refine (c2.out _ hO.out hW.out.K hW.out.F).mono ?_
    rintro e w4 ⟨rfl, hnew⟩
    replace h1 := Lib.hid (h1.out.below hnew); replace hW := Lib.hid (hW.out.below hnew); replace hO := Lib.hid (hO.out.below hnew)
    replace hb1 := Lib.hid (hb1.out.trans (hnew.mono hb1.out.size))
    clear hnew
    go_wp2_with fail
    with_reducible refine (c3.out _ hO.out hW.out.K hW.out.F).mono ?_
    rintro e w5 ⟨rfl, hnew⟩
    replace h1 := Lib.hid (h1.out.below hnew); replace hW := Lib.hid (hW.out.below hnew); replace hO := Lib.hid (hO.out.below hnew)
    replace hb1 := Lib.hid (hb1.out.trans (hnew.mono hb1.out.size))
    clear hnew
    go_wp2_with fail
    with_reducible refine (c4.out _ hO.out hW.out.K hW.out.F).mono ?_
    rintro e w6 ⟨rfl, hnew⟩
    replace hb1 := Lib.hid (hb1.out.trans (hnew.mono hb1.out.size))
    clear hnew
    go_wp2_with fail
    go_ret
    exact ⟨rfl, hb1.out⟩

theorem back_law (a1 : Option Addr) (c1 : Nat) (key : List UInt8) (n i : Int) (w : World) (h1 : ArgB w a1 c1 key) (hn : (Lit.int IntKind.i64 n).wf = true) (_ : (Lit.int IntKind.i64 i).wf = true)
    (z : Nat → Addr) (er : Errs 104 [0] w z) (hK : ShaK w) (hF : ShaF w) :
    Calls Tryd.prog 3 #[.slice a1 key.length c1, .int .i64 n, .int .i64 i] w fun e w' => e = .returned (.bool true) ∧ Below w.heap.size w w' := by
  have hx : -9223372036854775808 ≤ n ∧ n ≤ 9223372036854775807 := by simpa [Lit.wf, IntKind.min, IntKind.max, IntKind.signed, IntKind.bits] using hn
  exact back_walk a1 c1 key n i (z 0) w h1 hx.2 hx.1 ⟨hK, hF, er.var 0 (by decide)⟩

end Go.Proofs.YtmngcnhnpfnloaaDoor
