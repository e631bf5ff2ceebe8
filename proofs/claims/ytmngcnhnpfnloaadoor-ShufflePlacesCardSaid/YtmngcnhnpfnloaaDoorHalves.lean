/- The walks over shuffle's Order: Size, Bits, halves, step, back. -/
import Derived.Test.YtmngcnhnpfnloaaDoorRound
import Derived.Test.YtmngcnhnpfnloaaDoorBitsN
namespace Go.Proofs.YtmngcnhnpfnloaaDoor
open Go.RowKit

theorem size_any (b : Nat) (key : List UInt8) (size bits : Nat) (w : World) (hO : OrdAt w b key size bits) :
    Calls Tryd.prog 15 #[.pointer (some ⟨b, 0, none⟩)] w fun e w' => e = .returned (.int .i64 (size : Int)) ∧ w = w' := by
  have k1 := hO.size
  go_enter Tryd.func15, Tryd.ntmps15
  go_wp2_with fail
  go_ret
  exact ⟨rfl, rfl⟩
theorem bits_any (b : Nat) (key : List UInt8) (size bits : Nat) (w : World) (hO : OrdAt w b key size bits) :
    Calls Tryd.prog 16 #[.pointer (some ⟨b, 0, none⟩)] w fun e w' => e = .returned (.int .i64 (bits : Int)) ∧ w = w' := by
  have k1 := hO.bits
  go_enter Tryd.func16, Tryd.ntmps16
  go_wp2_with fail
  go_ret
  exact ⟨rfl, rfl⟩

set_option maxHeartbeats 1000000 in
theorem halves_any (b : Nat) (key : List UInt8) (size bits x : Nat) (w : World) (hO : OrdAt w b key size bits) (hx : x < 1048576) (hb1 : 1 ≤ bits) (hb2 : bits ≤ 10) :
    Calls Tryd.prog 28 #[.pointer (some ⟨b, 0, none⟩), .int .i64 (x : Int)] w fun e w' => e = .returned (.tuple #[.int .i64 ((x / 2 ^ bits : Nat) : Int), .int .i64 ((x % 2 ^ bits : Nat) : Int)]) ∧ Below w.heap.size w w' := by
  have k1 := hO.bits
  have hbi1 : (1 : Int) ≤ bits := by omega
  have hbi2 : (bits : Int) ≤ 10 := by omega
  have hxi : (x : Int) < 1048576 := by omega
  have hlo := Lib.hid (i64_low x bits (by omega) (by omega))
  have hhi := Lib.hid (show (x : Int) / (2 : Int) ^ bits = ((x / 2 ^ bits : Nat) : Int) from by simp)
  go_enter Tryd.func28, Tryd.ntmps28
  go_wp2_with fail
  go_quiet (fail)
  go_wp2_with fail
  go_ret2
  exact ⟨by rw [← hlo.out, ← hhi.out]; rfl, below_drewN (Below.refl _ _) _⟩

set_option maxHeartbeats 1000000 in
theorem step_any (b : Nat) (key : List UInt8) (size bits x : Nat) (w : World) (hO : OrdAt w b key size bits) (hx : x < 2 ^ (2 * bits)) (hb1 : 1 ≤ bits) (hb2 : bits ≤ 10) (hK : ShaK w) (hF : ShaF w) :
    Calls Tryd.prog 21 #[.pointer (some ⟨b, 0, none⟩), .int .i64 (x : Int)] w fun e w' => e = .returned (.int .i64 ((stepN (rnd key bits) bits x : Nat) : Int)) ∧ Below w.heap.size w w' := by
  have hx20 : x < 1048576 := Nat.lt_of_lt_of_le hx (Nat.pow_le_pow_right (by omega) (show 2 * bits ≤ 20 by omega))
  have hh := Lib.hid (halves_any b key size bits x w hO hx20 hb1 hb2)
  have hst := Lib.hid (show stepN (rnd key bits) bits x = (net (rnd key bits) (x / 2 ^ bits) (x % 2 ^ bits) 4).1 * 2 ^ bits + (net (rnd key bits) (x / 2 ^ bits) (x % 2 ^ bits) 4).2 from rfl)
  obtain ⟨hl0, hr0⟩ := halves_lt hx
  have hnl := Lib.hid (net_lt (rnd_lt key bits) hl0 hr0)
  have hp2 := Lib.hid (shl_bits bits hb2)
  have hbi1 : (1 : Int) ≤ bits := by omega
  have hbi2 : (bits : Int) ≤ 10 := by omega
  replace hO := Lib.hid hO; replace hK := Lib.hid hK; replace hF := Lib.hid hF; replace hx := Lib.hid hx; replace hl0 := Lib.hid hl0; replace hr0 := Lib.hid hr0
  generalize x / 2 ^ bits = l0 at *
  generalize x % 2 ^ bits = r0 at *
  generalize stepN (rnd key bits) bits x = S at *
  go_enter Tryd.func21, Tryd.ntmps21
  go_wp2_with fail
  with_reducible refine hh.out.mono ?_
  rintro e w1 ⟨rfl, hB1⟩
  replace hO := Lib.hid (hO.out.below hB1); replace hK := Lib.hid (hK.out.below hB1); replace hF := Lib.hid (hF.out.below hB1)
  replace hB1 := Lib.hid hB1
  clear hh
  go_wp2_with fail
  go_loopw [5, 6, 7, 14] (fun l r _ j wr => ∃ k : Nat, k ≤ 4 ∧ j = .int .i64 k ∧ l = .int .i64 (((net (rnd key bits) l0 r0 k).1 : Nat) : Int) ∧ r = .int .i64 (((net (rnd key bits) l0 r0 k).2 : Nat) : Int) ∧ Below w1.heap.size w1 wr) (fun _ _ _ j _ => 4 - (intOf j).toNat)
  case atStart => exact ⟨0, Nat.zero_le _, rfl, rfl, rfl, Below.refl _ _⟩
  case round =>
    obtain ⟨k, hk, rfl, rfl, rfl, hB⟩ := hrel
    obtain ⟨hlk, hrk⟩ := hnl.out k
    by_cases hlt : k < 4
    · have hk4 : (k : Int) < 4 := by omega
      have hrr := Lib.hid (round_any b key size bits k (net (rnd key bits) l0 r0 k).2 wr (hO.out.below hB) hlt (Nat.lt_of_lt_of_le hrk hp2.out) hb1 hb2 (hK.out.below hB) (hF.out.below hB))
      have hxo := i64_xor_nat (net (rnd key bits) l0 r0 k).1 (rnd key bits k (net (rnd key bits) l0 r0 k).2) (by have := hp2.out; omega) (by have := hp2.out; have := rnd_lt key bits k (net (rnd key bits) l0 r0 k).2; omega)
      have hn1 := Lib.hid (show (net (rnd key bits) l0 r0 (k + 1)).1 = (net (rnd key bits) l0 r0 k).2 from rfl)
      have hn2 := Lib.hid (show (net (rnd key bits) l0 r0 (k + 1)).2 = (net (rnd key bits) l0 r0 k).1 ^^^ rnd key bits k (net (rnd key bits) l0 r0 k).2 from rfl)
      replace hB := Lib.hid hB; replace hlk := Lib.hid hlk; replace hrk := Lib.hid hrk; replace hxo := Lib.hid hxo
      generalize rnd key bits k (net (rnd key bits) l0 r0 k).2 = y at *
      generalize (net (rnd key bits) l0 r0 k).1 = l at *
      generalize (net (rnd key bits) l0 r0 k).2 = r at *
      go_wp2_with fail
      with_reducible refine hrr.out.mono ?_
      rintro e w2 ⟨rfl, hB2⟩
      have hB3 := Lib.hid (hB.out.trans (hB2.mono hB.out.size))
      clear hB2 hrr
      go_wp2_with fail
      exact ⟨⟨k + 1, by omega, by go_num, by rw [hn1.out], by rw [hn2.out, ← hxo.out], hB3.out⟩, by simp [intOf]; omega⟩
    · obtain rfl : k = 4 := by omega
      have hj := Lib.hid (i64_join (net (rnd key bits) l0 r0 4).1 (net (rnd key bits) l0 r0 4).2 bits (by have := hp2.out; omega) (by omega) hrk)
      have hk2 := (hO.out.below hB).bits
      have hB3 := Lib.hid (hB1.out.trans (hB.mono hB1.out.size))
      replace hB := Lib.hid hB; replace hlk := Lib.hid hlk; replace hrk := Lib.hid hrk
      generalize (net (rnd key bits) l0 r0 4).1 = l at *
      generalize (net (rnd key bits) l0 r0 4).2 = r at *
      go_wp2_with fail
      go_ret
      exact ⟨by rw [hst.out, ← hj.out]; rfl, hB3.out⟩

set_option maxHeartbeats 1000000 in
theorem back_any (b : Nat) (key : List UInt8) (size bits x : Nat) (w : World) (hO : OrdAt w b key size bits) (hx : x < 2 ^ (2 * bits)) (hb1 : 1 ≤ bits) (hb2 : bits ≤ 10) (hK : ShaK w) (hF : ShaF w) :
    Calls Tryd.prog 22 #[.pointer (some ⟨b, 0, none⟩), .int .i64 (x : Int)] w fun e w' => e = .returned (.int .i64 ((backN (rnd key bits) bits x : Nat) : Int)) ∧ Below w.heap.size w w' := by
  have hx20 : x < 1048576 := Nat.lt_of_lt_of_le hx (Nat.pow_le_pow_right (by omega) (show 2 * bits ≤ 20 by omega))
  have hh := Lib.hid (halves_any b key size bits x w hO hx20 hb1 hb2)
  have hst := Lib.hid (show backN (rnd key bits) bits x = (ten (rnd key bits) (x / 2 ^ bits) (x % 2 ^ bits) 4).1 * 2 ^ bits + (ten (rnd key bits) (x / 2 ^ bits) (x % 2 ^ bits) 4).2 from rfl)
  obtain ⟨hl0, hr0⟩ := halves_lt hx
  have hnl := Lib.hid (ten_lt (rnd_lt key bits) hl0 hr0)
  have hp2 := Lib.hid (shl_bits bits hb2)
  have hbi1 : (1 : Int) ≤ bits := by omega
  have hbi2 : (bits : Int) ≤ 10 := by omega
  replace hO := Lib.hid hO; replace hK := Lib.hid hK; replace hF := Lib.hid hF; replace hx := Lib.hid hx; replace hl0 := Lib.hid hl0; replace hr0 := Lib.hid hr0
  generalize x / 2 ^ bits = l0 at *
  generalize x % 2 ^ bits = r0 at *
  generalize backN (rnd key bits) bits x = S at *
  go_enter Tryd.func22, Tryd.ntmps22
  go_wp2_with fail
  with_reducible refine hh.out.mono ?_
  rintro e w1 ⟨rfl, hB1⟩
  replace hO := Lib.hid (hO.out.below hB1); replace hK := Lib.hid (hK.out.below hB1); replace hF := Lib.hid (hF.out.below hB1)
  replace hB1 := Lib.hid hB1
  clear hh
  go_wp2_with fail
  go_loopw [5, 6, 7] (fun l r j wr => ∃ k : Nat, k ≤ 4 ∧ j = .int .i64 (3 - (k : Int)) ∧ l = .int .i64 (((ten (rnd key bits) l0 r0 k).1 : Nat) : Int) ∧ r = .int .i64 (((ten (rnd key bits) l0 r0 k).2 : Nat) : Int) ∧ Below w1.heap.size w1 wr) (fun _ _ j _ => (intOf j + 1).toNat)
  case atStart => exact ⟨0, Nat.zero_le _, rfl, rfl, rfl, Below.refl _ _⟩
  case round =>
    obtain ⟨k, hk, rfl, rfl, rfl, hB⟩ := hrel
    obtain ⟨hlk, hrk⟩ := hnl.out k
    by_cases hlt : k < 4
    · obtain ⟨m, hm⟩ : ∃ m : Nat, m + k = 3 := ⟨3 - k, by omega⟩
      have hm2 : (3 : Int) - (k : Int) = (m : Int) := by omega
      have hm3 : (m : Int) ≤ 3 := by omega
      rw [hm2]
      have hrr := Lib.hid (round_any b key size bits m (ten (rnd key bits) l0 r0 k).1 wr (hO.out.below hB) (by omega) (Nat.lt_of_lt_of_le hlk hp2.out) hb1 hb2 (hK.out.below hB) (hF.out.below hB))
      have hxo := i64_xor_nat (ten (rnd key bits) l0 r0 k).2 (rnd key bits m (ten (rnd key bits) l0 r0 k).1) (by have := hp2.out; omega) (by have := hp2.out; have := rnd_lt key bits m (ten (rnd key bits) l0 r0 k).1; omega)
      have hn1 := Lib.hid (show (ten (rnd key bits) l0 r0 (k + 1)).1 = (ten (rnd key bits) l0 r0 k).2 ^^^ rnd key bits m (ten (rnd key bits) l0 r0 k).1 from by rw [ten, show 3 - k = m from by omega])
      have hn2 := Lib.hid (show (ten (rnd key bits) l0 r0 (k + 1)).2 = (ten (rnd key bits) l0 r0 k).1 from rfl)
      have hend := Lib.hid (show (m : Int) - 1 = 3 - ((k + 1 : Nat) : Int) from by omega)
      replace hB := Lib.hid hB; replace hlk := Lib.hid hlk; replace hrk := Lib.hid hrk; replace hxo := Lib.hid hxo; replace hm2 := Lib.hid hm2; replace hm := Lib.hid hm
      generalize rnd key bits m (ten (rnd key bits) l0 r0 k).1 = y at *
      generalize (ten (rnd key bits) l0 r0 k).1 = l at *
      generalize (ten (rnd key bits) l0 r0 k).2 = r at *
      go_wp2_with fail
      with_reducible refine hrr.out.mono ?_
      rintro e w2 ⟨rfl, hB2⟩
      have hB3 := Lib.hid (hB.out.trans (hB2.mono hB.out.size))
      clear hB2 hrr
      go_wp2_with fail
      exact ⟨⟨k + 1, by omega, by rw [← hend.out], by rw [hn1.out, ← hxo.out], by rw [hn2.out], hB3.out⟩, by simp [intOf]⟩
    · obtain rfl : k = 4 := by omega
      have hj := Lib.hid (i64_join (ten (rnd key bits) l0 r0 4).1 (ten (rnd key bits) l0 r0 4).2 bits (by have := hp2.out; omega) (by omega) hrk)
      have hk2 := (hO.out.below hB).bits
      have hB3 := Lib.hid (hB1.out.trans (hB.mono hB1.out.size))
      replace hB := Lib.hid hB; replace hlk := Lib.hid hlk; replace hrk := Lib.hid hrk
      generalize (ten (rnd key bits) l0 r0 4).1 = l at *
      generalize (ten (rnd key bits) l0 r0 4).2 = r at *
      go_wp2_with fail
      go_ret
      exact ⟨by rw [hst.out, ← hj.out]; rfl, hB3.out⟩

end Go.Proofs.YtmngcnhnpfnloaaDoor
