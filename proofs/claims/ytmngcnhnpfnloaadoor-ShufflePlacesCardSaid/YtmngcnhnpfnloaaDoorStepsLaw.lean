/- The walk over baileelaw11.ShuffleSteps: for whatever arguments it returns true and leaves what was there as it was. -/
import Derived.Test.YtmngcnhnpfnloaaDoorAlive11
import Derived.Test.YtmngcnhnpfnloaaDoorStep
import Derived.Test.YtmngcnhnpfnloaaDoorRStep
import Derived.Test.YtmngcnhnpfnloaaDoorNum
namespace Go.Proofs.YtmngcnhnpfnloaaDoor
open Go.RowKit

/-- What the laws that look at the reference find. -/
structure ShW (z : Nat → Addr) (w : World) : Prop where
  K : ShaK w
  F : ShaF w
  rK : RefK w
  rF : RefF w
  er : Errs 104 errGs w z
theorem ShW.below {z : Nat → Addr} {w w' : World} (h : ShW z w) (hb : Below w.heap.size w w') : ShW z w' := ⟨h.K.below hb, h.F.below hb, h.rK.below hb, h.rF.below hb, h.er.below hb⟩
theorem ShW.range {z : Nat → Addr} {w : World} (h : ShW z w) : SentAt gRange11 w (z 0) := (num_cells h.er).1

set_option maxRecDepth 10000 in
set_option maxHeartbeats 4000000 in
theorem steps_walk (a1 : Option Addr) (c1 : Nat) (key : List UInt8) (n x : Int) (z : Nat → Addr) (w : World) (h1 : ArgB w a1 c1 key) (hW : ShW z w) :
    Calls Tryd.prog 5 #[.slice a1 key.length c1, .int .i64 n, .int .i64 x] w fun e w' => e = .returned (.bool true) ∧ Below w.heap.size w w' := by
  have hal := Lib.hid (alive11_any w hW.K hW.F)
  have hx1 : key.length ≤ 9223372036854775807 := by have := h1.len; have := h1.most; unfold maxLen at *; omega
  by_cases hk : 200 < key.length
  · have hki : (200 : Int) < key.length := by omega
    go_enter Tryd.func5, Tryd.ntmps5
    go_wp2_with fail
    with_reducible refine hal.out.mono ?_
    rintro e w1 ⟨rfl, hb1⟩
    replace hb1 := Lib.hid hb1
    go_wp2_with fail
    go_ret
    exact ⟨rfl, hb1.out⟩
  · have hki : ¬ (200 : Int) < key.length := by omega
    by_cases hn : n < 1 ∨ 10 < n
    · have hst := Lib.hid (fun a W A => sStep_w a n x W (z 0) A hn)
      have hd : ∃ b1 b2 : Bool, decide (n < 1) = b1 ∧ decide (10 < n) = b2 ∧ (b1 || b2) = true := by
        refine ⟨_, _, rfl, rfl, ?_⟩
        simp only [Bool.or_eq_true, decide_eq_true_eq]
        omega
      obtain ⟨b1, b2, e1, e2, e4⟩ := hd
      clear hn
      cases b1 <;> cases b2 <;> simp at e4
      all_goals
        go_enter Tryd.func5, Tryd.ntmps5
        go_wp2_with fail
        with_reducible refine hal.out.mono ?_
        rintro e w1 ⟨rfl, hb1⟩
        replace hW := Lib.hid (hW.below hb1)
        replace hb1 := Lib.hid hb1
        go_wp2_with fail
        with_reducible refine (hst.out _ _ hW.out.range).mono ?_
        rintro e w2 ⟨rfl, hnew⟩
        replace hW := Lib.hid (hW.out.below hnew)
        replace hb1 := Lib.hid (hb1.out.trans (hnew.mono hb1.out.size))
        clear hnew
        go_wp2_with fail
        with_reducible refine (num_err 0 (by omega) z _ hW.out.er).mono ?_
        rintro e w3 ⟨rfl, hnew⟩
        replace hb1 := Lib.hid (hb1.out.trans (hnew.mono hb1.out.size))
        clear hnew
        go_wp2_with fail
        go_ret
        exact ⟨rfl, hb1.out⟩
    · obtain ⟨N, rfl⟩ : ∃ N : Nat, n = (N : Int) := ⟨n.toNat, by omega⟩
      have hN1 : 1 ≤ N := by omega
      have hN2 : N ≤ 10 := by omega
      have hN1i : (1 : Int) ≤ N := by omega
      have hN2i : (N : Int) ≤ 10 := by omega
      have hpw := Lib.hid (wrap_pow N hN2)
      clear hn
      by_cases hx : x < 0
      · have hst := Lib.hid (fun a W A => sStep_x a N x W (z 0) A hN1 hN2 (.inl hx))
        go_enter Tryd.func5, Tryd.ntmps5
        go_wp2_with fail
        with_reducible refine hal.out.mono ?_
        rintro e w1 ⟨rfl, hb1⟩
        replace hW := Lib.hid (hW.below hb1)
        replace hb1 := Lib.hid hb1
        go_wp2_with fail
        with_reducible refine (hst.out _ _ hW.out.range).mono ?_
        rintro e w2 ⟨rfl, hnew⟩
        replace hW := Lib.hid (hW.out.below hnew)
        replace hb1 := Lib.hid (hb1.out.trans (hnew.mono hb1.out.size))
        clear hnew
        go_wp2_with fail
        with_reducible refine (num_err 0 (by omega) z _ hW.out.er).mono ?_
        rintro e w3 ⟨rfl, hnew⟩
        replace hb1 := Lib.hid (hb1.out.trans (hnew.mono hb1.out.size))
        clear hnew
        go_wp2_with fail
        go_ret
        exact ⟨rfl, hb1.out⟩
      · by_cases hx2 : ((2 ^ (2 * N) : Nat) : Int) ≤ x
        · have hst := Lib.hid (fun a W A => sStep_x a N x W (z 0) A hN1 hN2 (.inr hx2))
          have hx3 : wrap64 ((2 : Int) ^ (2 * N)) ≤ x := by rw [hpw.out]; exact hx2
          replace hx2 := Lib.hid hx2
          go_enter Tryd.func5, Tryd.ntmps5
          go_wp2_with fail
          with_reducible refine hal.out.mono ?_
          rintro e w1 ⟨rfl, hb1⟩
          replace hW := Lib.hid (hW.below hb1)
          replace hb1 := Lib.hid hb1
          go_wp2_with fail
          with_reducible refine (hst.out _ _ hW.out.range).mono ?_
          rintro e w2 ⟨rfl, hnew⟩
          replace hW := Lib.hid (hW.out.below hnew)
          replace hb1 := Lib.hid (hb1.out.trans (hnew.mono hb1.out.size))
          clear hnew
          go_wp2_with fail
          with_reducible refine (num_err 0 (by omega) z _ hW.out.er).mono ?_
          rintro e w3 ⟨rfl, hnew⟩
          replace hb1 := Lib.hid (hb1.out.trans (hnew.mono hb1.out.size))
          clear hnew
          go_wp2_with fail
          go_ret
          exact ⟨rfl, hb1.out⟩
        · obtain ⟨X, rfl⟩ : ∃ X : Nat, x = (X : Int) := ⟨x.toNat, by omega⟩
          have hX : X < 2 ^ (2 * N) := by omega
          have hst := Lib.hid (fun W A C D => sStep_ok a1 c1 key N X W A (by omega) hN1 hN2 hX C D)
          have hrs := Lib.hid (fun W A C D => rStep_any a1 c1 key N X W A (by omega) hN1 hN2 hX C D)
          have hx3 : (X : Int) < wrap64 ((2 : Int) ^ (2 * N)) := by rw [hpw.out]; exact Int.ofNat_lt.2 hX
          replace hX := Lib.hid hX
          clear hx hx2
          generalize stepN (rnd key N) N X = S at *
          go_enter Tryd.func5, Tryd.ntmps5
          go_wp2_with fail
          with_reducible refine hal.out.mono ?_
          rintro e w1 ⟨rfl, hb1⟩
          replace h1 := Lib.hid (h1.below hb1); replace hW := Lib.hid (hW.below hb1)
          replace hb1 := Lib.hid hb1
          go_wp2_with fail
          with_reducible refine (hst.out _ h1.out hW.out.K hW.out.F).mono ?_
          rintro e w2 ⟨rfl, hnew⟩
          replace h1 := Lib.hid (h1.out.below hnew); replace hW := Lib.hid (hW.out.below hnew)
          replace hb1 := Lib.hid (hb1.out.trans (hnew.mono hb1.out.size))
          clear hnew
          go_wp2_with fail
          with_reducible refine (hrs.out _ h1.out hW.out.rK hW.out.rF).mono ?_
          rintro e w3 ⟨rfl, hnew⟩
          replace hb1 := Lib.hid (hb1.out.trans (hnew.mono hb1.out.size))
          clear hnew
          go_wp2_with fail
          go_ret
          exact ⟨rfl, hb1.out⟩

theorem steps_law (a1 : Option Addr) (c1 : Nat) (key : List UInt8) (n x : Int) (w : World) (h1 : ArgB w a1 c1 key) (_ : (Lit.int IntKind.i64 n).wf = true) (_ : (Lit.int IntKind.i64 x).wf = true)
    (z : Nat → Addr) (er : Errs 104 errGs w z) (hK : ShaK w) (hF : ShaF w) (hRK : RefK w) (hRF : RefF w) :
    Calls Tryd.prog 5 #[.slice a1 key.length c1, .int .i64 n, .int .i64 x] w fun e w' => e = .returned (.bool true) ∧ Below w.heap.size w w' :=
  steps_walk a1 c1 key n x z w h1 ⟨hK, hF, hRK, hRF, er⟩

end Go.Proofs.YtmngcnhnpfnloaaDoor
