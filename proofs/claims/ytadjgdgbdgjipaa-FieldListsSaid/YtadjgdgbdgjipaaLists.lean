/- The walk over FieldLists. -/
import Derived.Test.YtadjgdgbdgjipaaAlive1
import Derived.Test.YtadjgdgbdgjipaaRef1
import Derived.Test.YtadjgdgbdgjipaaEnum
import Derived.Test.YtadjgdgbdgjipaaSumDot
namespace Go.Proofs.Ytadjgdgbdgjipaa
open Go.RowKit

/-- The law's own sum of products. -/
theorem dots_step (xs ys : List UInt8) (k : Nat) (hx : k < xs.length) : sumN ((dots xs ys).take (k + 1)) = if k < ys.length then Gf.add (sumN ((dots xs ys).take k)) (Gf.mul (xs.getD k 0) (ys.getD k 0)) else sumN ((dots xs ys).take k) := by
  by_cases h : k < ys.length
  · rw [if_pos h, sumN_take (by rw [dots_length]; omega), dots_get hx h]
  · rw [if_neg h, List.take_of_length_le (by rw [dots_length]; omega), List.take_of_length_le (by rw [dots_length]; omega)]

set_option maxHeartbeats 2000000 in
theorem lists_walk (a : Option Addr) (ca : Nat) (xs : List UInt8) (b : Option Addr) (cb : Nat) (ys : List UInt8) (w : World) (ha : ArgB w a ca xs) (hb : ArgB w b cb ys) :
    Calls Try.prog 3 #[.slice a xs.length ca, .slice b ys.length cb] w fun e w' => e = .returned (.bool true) ∧ Below w.heap.size w w' := by
  replace ha := Lib.hid ha
  replace hb := Lib.hid hb
  have hla : xs.length ≤ maxLen := Nat.le_trans ha.out.len ha.out.most
  have hlb : ys.length ≤ maxLen := Nat.le_trans hb.out.len hb.out.most
  rcases Nat.lt_or_ge 600 xs.length with h1 | h1
  · go_enter Try.func3, Try.ntmps3
    go_wp2_with fail
    refine (alive1_any _).mono ?_
    rintro e w1 ⟨rfl, hb1⟩
    go_wp2_with fail
    go_ret
    exact ⟨rfl, hb1⟩
  rcases Nat.lt_or_ge 600 ys.length with h2 | h2
  · go_enter Try.func3, Try.ntmps3
    go_wp2_with fail
    refine (alive1_any _).mono ?_
    rintro e w1 ⟨rfl, hb1⟩
    go_wp2_with fail
    go_ret
    exact ⟨rfl, hb1⟩
  go_enter Try.func3, Try.ntmps3
  go_wp2_with fail
  refine (alive1_any _).mono ?_
  rintro e w1 ⟨rfl, hb1⟩
  replace hb1 := Lib.hid hb1
  go_wp2_with fail
  refine (bytes_any a ca xs _ (ha.out.below hb1.out) (by omega)).mono ?_
  rintro e w2 ⟨g1, hg1, rfl, hl1, hx1, hb2⟩
  replace hx1 := Lib.hid hx1
  replace hb2 := Lib.hid (hb1.out.trans (hb2.mono hb1.out.size))
  go_wp2_with fail
  refine (bytes_any b cb ys _ (hb.out.below hb2.out) (by omega)).mono ?_
  rintro e w3 ⟨g2, hg2, rfl, hl2, hy1, hb3⟩
  replace hx1 := Lib.hid (hx1.out.below hb3)
  replace hy1 := Lib.hid hy1
  replace hb3 := Lib.hid (hb2.out.trans (hb3.mono hb2.out.size))
  have ha3 := Lib.hid (ha.out.below hb3.out)
  have hb3' := Lib.hid (hb.out.below hb3.out)
  clear hb1 hb2
  go_wp2_with fail
  go_loop [7, 8, 27] (fun s d j => ∃ k : Nat, k ≤ xs.length ∧ j = .int .i64 k ∧ s = .int .u8 ((sumN (xs.take k)).toNat : Int) ∧ d = .int .u8 ((sumN ((dots xs ys).take k)).toNat : Int)) (fun _ _ j => xs.length - (intOf j).toNat)
  case atStart => exact ⟨0, Nat.zero_le _, rfl, rfl, rfl⟩
  case round =>
    obtain ⟨k, hk, rfl, rfl, rfl⟩ := hrel
    by_cases hlt : k < xs.length
    · obtain ⟨b1, o1, rfl, c1⟩ := ha3.out.row k hlt
      have hs := Lib.hid (sumN_take hlt)
      have hd := dots_step xs ys k hlt
      by_cases hlt2 : k < ys.length
      · obtain ⟨b2, o2, rfl, c2⟩ := hb3'.out.row k hlt2
        rw [if_pos hlt2] at hd
        replace hd := Lib.hid hd
        generalize xs.getD k 0 = x at *
        generalize ys.getD k 0 = y at *
        go_wp2_with (go_at_call 6; ((with_reducible refine (refmul_any _ _ _).mono ?_); rintro e w' ⟨rfl, rfl⟩))
        rw [xor_u8, xor_u8, ← hs.out, ← hd.out]
        exact ⟨⟨k + 1, by omega, by go_num, rfl, rfl⟩, by simp [intOf]; omega⟩
      · rw [if_neg hlt2] at hd
        replace hd := Lib.hid hd
        generalize xs.getD k 0 = x at *
        go_wp2_with fail
        rw [xor_u8, ← hs.out, ← hd.out]
        exact ⟨⟨k + 1, by omega, by go_num, rfl, rfl⟩, by simp [intOf]; omega⟩
    · obtain rfl : k = xs.length := by omega
      have hs := Lib.hid (show sumN (xs.take xs.length) = sumN xs from by rw [List.take_length])
      have hd := Lib.hid (show sumN ((dots xs ys).take xs.length) = sumN (dots xs ys) from by rw [List.take_of_length_le (by rw [dots_length]; omega)])
      rw [hs.out, hd.out]
      go_wp2_with fail
      refine (sum_any _ _ xs _ (marks_row hx1.out) (by omega)).mono ?_
      rintro e w4 ⟨rfl, rfl⟩
      go_wp2_with fail
      refine (dot_any _ _ _ _ xs ys _ (marks_row hx1.out) (marks_row hy1.out) (by omega) (by omega)).mono ?_
      rintro e w4 ⟨rfl, hd4⟩
      have hx4 := Lib.hid (hd4.at hx1.out)
      have hy4 := Lib.hid (hd4.at hy1.out)
      have ha4 := Lib.hid (ha.out.below (hb3.out.trans (hd4.below _)))
      have hb4 := Lib.hid (hb.out.below (hb3.out.trans (hd4.below _)))
      have hbel4 := Lib.hid (hb3.out.trans (hd4.below w.heap.size))
      clear hd4
      go_wp2_with fail
      refine (kept_any g1 _ ca xs _ (by omega) hx4.out ha4.out).mono ?_
      rintro e w5 ⟨rfl, hd5⟩
      have hy5 := Lib.hid (hd5.at hy4.out)
      have hb5 := Lib.hid (hb4.out.below (hd5.below _))
      have hbel5 := Lib.hid (hbel4.out.trans (hd5.below w.heap.size))
      clear hd5
      go_wp2_with fail
      refine (kept_any g2 _ cb ys _ (by omega) hy5.out hb5.out).mono ?_
      rintro e w6 ⟨rfl, hd6⟩
      have hbel6 := Lib.hid (hbel5.out.trans (hd6.below w.heap.size))
      clear hd6
      go_wp2_with fail
      go_ret
      exact ⟨rfl, hbel6.out⟩

end Go.Proofs.Ytadjgdgbdgjipaa
