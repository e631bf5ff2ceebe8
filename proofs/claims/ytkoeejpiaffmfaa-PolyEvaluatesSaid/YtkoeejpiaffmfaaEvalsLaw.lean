/- The walk over PolyEvaluates. -/
import Derived.Test.YtkoeejpiaffmfaaRoots
import Derived.Test.YtkoeejpiaffmfaaPolyAdd
import Derived.Test.YtkoeejpiaffmfaaPolyEv
namespace Go.Proofs.Ytkoeejpiaffmfaa
open Go.RowKit

theorem padd_length (p q : List UInt8) : (padd p q).length ≤ max p.length q.length := by
  rw [padd, trim_length]
  exact Nat.le_trans (tlen_le _) (Nat.le_of_eq (tab_length _ _))

set_option maxRecDepth 10000 in
set_option maxHeartbeats 4000000 in
theorem evals_walk8 (a : Option Addr) (ca : Nat) (xs : List UInt8) (b : Option Addr) (cb : Nat) (ys : List UInt8) (x : UInt8) (w : World) (ha : ArgB w a ca xs) (hb : ArgB w b cb ys) :
    Calls Try.prog 7 #[.slice a xs.length ca, .slice b ys.length cb, .int .u8 (x.toNat : Int)] w fun e w' => e = .returned (.bool true) ∧ Below w.heap.size w w' := by
  have hla : xs.length ≤ maxLen := Nat.le_trans ha.len ha.most
  have hlb : ys.length ≤ maxLen := Nat.le_trans hb.len hb.most
  replace ha := Lib.hid ha
  replace hb := Lib.hid hb
  rcases Nat.lt_or_ge 60 xs.length with h1 | h1
  · go_enter Try.func7, Try.ntmps7
    go_wp2_with fail
    refine (alive2_any _).mono ?_
    rintro e w1 ⟨rfl, hb1⟩
    go_wp2_with fail
    go_ret
    exact ⟨rfl, hb1⟩
  rcases Nat.lt_or_ge 60 ys.length with h2 | h2
  · go_enter Try.func7, Try.ntmps7
    go_wp2_with fail
    refine (alive2_any _).mono ?_
    rintro e w1 ⟨rfl, hb1⟩
    go_wp2_with fail
    go_ret
    exact ⟨rfl, hb1⟩
  have e1 := Lib.hid (peval_padd xs ys x)
  have e2 := Lib.hid (peval_pmul xs ys x)
  have l1 := padd_length xs ys
  have l2 := pmul_length xs ys
  go_enter Try.func7, Try.ntmps7
  go_wp2_with fail
  refine (alive2_any _).mono ?_
  rintro e w1 ⟨rfl, hb1⟩
  replace ha := Lib.hid (ha.out.below hb1)
  replace hb := Lib.hid (hb.out.below hb1)
  replace hb1 := Lib.hid hb1
  go_wp2_with fail
  refine (eval_any a ca xs x _ ha.out.row (by omega)).mono ?_
  rintro e w2 ⟨rfl, hb2⟩
  replace ha := Lib.hid (ha.out.below hb2)
  replace hb := Lib.hid (hb.out.below hb2)
  replace hb2 := Lib.hid (hb1.out.trans (hb2.mono hb1.out.size))
  clear hb1
  go_wp2_with fail
  refine (eval_any b cb ys x _ hb.out.row (by omega)).mono ?_
  rintro e w3 ⟨rfl, hb3⟩
  replace ha := Lib.hid (ha.out.below hb3)
  replace hb := Lib.hid (hb.out.below hb3)
  replace hb3 := Lib.hid (hb2.out.trans (hb3.mono hb2.out.size))
  clear hb2
  go_wp2_with fail
  refine (padd_any a ca xs b cb ys _ ha.out hb.out (by omega) (by omega)).mono ?_
  rintro e w4 ⟨v, rfl, ho, hb4⟩
  replace ha := Lib.hid (ha.out.below hb4)
  replace hb := Lib.hid (hb.out.below hb4)
  replace hb4 := Lib.hid (hb3.out.trans (hb4.mono hb3.out.size))
  clear hb3
  obtain ⟨a1, c1, rfl, hS, _⟩ := ho.arg
  replace hS := Lib.hid hS
  clear ho
  go_wp2_with fail
  refine (eval_any a1 c1 (padd xs ys) x _ hS.out.row (by omega)).mono ?_
  rintro e w5 ⟨rfl, hb5⟩
  replace ha := Lib.hid (ha.out.below hb5)
  replace hb := Lib.hid (hb.out.below hb5)
  replace hb5 := Lib.hid (hb4.out.trans (hb5.mono hb4.out.size))
  clear hb4 hS
  rw [e1.out]
  go_wp2_with fail
  refine (add_any (peval xs x) (peval ys x) _).mono ?_
  rintro e w6 ⟨rfl, rfl⟩
  go_wp2_with fail
  refine (pmul_any a ca xs b cb ys _ ha.out hb.out (by omega) (by omega)).mono ?_
  rintro e w6 ⟨v, rfl, ho, hb6⟩
  replace hb6 := Lib.hid (hb5.out.trans (hb6.mono hb5.out.size))
  clear hb5
  obtain ⟨a2, c2, rfl, hS, _⟩ := ho.arg
  replace hS := Lib.hid hS
  clear ho
  go_wp2_with fail
  refine (eval_any a2 c2 (pmul xs ys) x _ hS.out.row (by omega)).mono ?_
  rintro e w7 ⟨rfl, hb7⟩
  replace hb7 := Lib.hid (hb6.out.trans (hb7.mono hb6.out.size))
  rw [e2.out]
  go_wp2_with fail
  refine (mul_any (peval xs x) (peval ys x) _).mono ?_
  rintro e w8 ⟨rfl, rfl⟩
  go_wp2_with fail
  go_ret
  exact ⟨rfl, hb7.out⟩

theorem evals_walk (a : Option Addr) (ca : Nat) (xs : List UInt8) (b : Option Addr) (cb : Nat) (ys : List UInt8) (x : Int) (w : World) (ha : ArgB w a ca xs) (hb : ArgB w b cb ys) (hx : (Lit.int .u8 x).wf = true) :
    Calls Try.prog 7 #[.slice a xs.length ca, .slice b ys.length cb, .int .u8 x] w fun e w' => e = .returned (.bool true) ∧ Below w.heap.size w w' := by
  have := evals_walk8 a ca xs b cb ys (UInt8.ofNat x.toNat) w ha hb
  rw [u8_of_wf hx] at this
  exact this

end Go.Proofs.Ytkoeejpiaffmfaa
