/- Walks over field.Sum, field.Dot. -/
import Derived.Test.YtadjgdgbdgjipaaField
import Derived.Test.YtadjgdgbdgjipaaMem
namespace Go.Proofs.Ytadjgdgbdgjipaa
open Go.RowKit

def sumN (l : List UInt8) : UInt8 := l.foldl Gf.add 0
theorem sumN_take {l : List UInt8} {k : Nat} (h : k < l.length) : sumN (l.take (k + 1)) = Gf.add (sumN (l.take k)) (l.getD k 0) := by
  unfold sumN
  rw [List.take_succ_eq_append_getElem h, List.foldl_append]
  simp [h]
def dots (a b : List UInt8) : List UInt8 := List.zipWith Gf.mul a b
theorem dots_length (a b : List UInt8) : (dots a b).length = min a.length b.length := by simp [dots]
theorem dots_get {a b : List UInt8} {k : Nat} (ha : k < a.length) (hb : k < b.length) : (dots a b).getD k 0 = Gf.mul (a.getD k 0) (b.getD k 0) := by
  simp [dots, List.getElem?_zipWith, ha, hb]

set_option maxHeartbeats 400000 in
theorem sum_any (a : Option Addr) (cap : Nat) (bs : List UInt8) (w : World) (h : RowB w a bs) (hr : bs.length ≤ 1000000) :
    Calls Try.prog 7 #[.slice a bs.length cap] w fun e w' => e = .returned (.int .u8 ((sumN bs).toNat : Int)) ∧ w = w' := by
  replace h := Lib.hid h
  go_enter Try.func7, Try.ntmps7
  go_wp2_with fail
  go_loop [3, 8] (fun o j => ∃ k : Nat, k ≤ bs.length ∧ j = .int .i64 k ∧ o = .int .u8 ((sumN (bs.take k)).toNat : Int)) (fun _ j => bs.length - (intOf j).toNat)
  case atStart => exact ⟨0, Nat.zero_le _, rfl, rfl⟩
  case round =>
    obtain ⟨k, hk, rfl, rfl⟩ := hrel
    by_cases hlt : k < bs.length
    · obtain ⟨b, off, rfl, hc⟩ := h.out k hlt
      have hs := Lib.hid (sumN_take hlt)
      generalize bs.getD k 0 = x at *
      go_wp2_with fail
      rw [xor_u8, ← hs.out]
      exact ⟨⟨k + 1, by omega, by go_num, rfl⟩, by simp [intOf]; omega⟩
    · obtain rfl : k = bs.length := by omega
      have hs := Lib.hid (show sumN (bs.take bs.length) = sumN bs from by rw [List.take_length])
      rw [hs.out]
      go_wp2_with fail
      go_ret
      exact ⟨rfl, rfl⟩

set_option maxHeartbeats 400000 in
theorem dot_any (a b : Option Addr) (ca cb : Nat) (xs ys : List UInt8) (w : World) (ha : RowB w a xs) (hb : RowB w b ys) (hx : xs.length ≤ 1000000) (hy : ys.length ≤ 1000000) :
    Calls Try.prog 8 #[.slice a xs.length ca, .slice b ys.length cb] w fun e w' => e = .returned (.int .u8 ((sumN (dots xs ys)).toNat : Int)) ∧ Drawn w w' := by
  replace ha := Lib.hid ha
  replace hb := Lib.hid hb
  have hlen := Lib.hid (dots_length xs ys)
  by_cases hlt : ys.length < xs.length
  all_goals
    go_enter Try.func8, Try.ntmps8
    go_wp2_with fail
    go_loopw [5, 12] (fun o j wr => ∃ (k : Nat), k ≤ xs.length ∧ k ≤ ys.length ∧ j = .int .i64 k ∧ o = .int .u8 ((sumN ((dots xs ys).take k)).toNat : Int) ∧ Drawn w wr) (fun _ j _ => xs.length - (intOf j).toNat)
    case atStart => exact ⟨0, Nat.zero_le _, Nat.zero_le _, rfl, rfl, Drawn.refl _⟩
    case round =>
      obtain ⟨k, hk1, hk2, rfl, rfl, hdr⟩ := hrel
      by_cases hkk : k < xs.length ∧ k < ys.length
      · obtain ⟨h1, h2⟩ := hkk
        obtain ⟨b1, o1, rfl, c1⟩ := ha.out k h1
        obtain ⟨b2, o2, rfl, c2⟩ := hb.out k h2
        rw [← hdr.cell] at c1 c2
        have hs := sumN_take (l := dots xs ys) (k := k) (by rw [hlen.out]; omega)
        rw [dots_get h1 h2] at hs
        replace hs := Lib.hid hs
        generalize xs.getD k 0 = x at *
        generalize ys.getD k 0 = y at *
        go_wp2_with fail
        go_quiet ((go_at_call 10; exact quiet_eq (mul_any _ _ _)))
        go_wp2_with fail
        rw [xor_u8, ← hs.out]
        exact ⟨⟨k + 1, by omega, by omega, by go_num, rfl, hdr.more _⟩, by simp [intOf]; omega⟩
      · have hk3 : (dots xs ys).take k = dots xs ys := List.take_of_length_le (by rw [hlen.out]; omega)
        replace hk3 := Lib.hid hk3
        rw [hk3.out]
        go_wp2_with fail
        go_ret
        exact ⟨rfl, hdr⟩

end Go.Proofs.Ytadjgdgbdgjipaa
