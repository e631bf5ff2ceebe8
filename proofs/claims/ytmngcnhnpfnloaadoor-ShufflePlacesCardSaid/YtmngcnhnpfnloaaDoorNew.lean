/- The walks over shuffle.New, Step. -/
import Derived.Test.YtmngcnhnpfnloaaDoorHalves
import Derived.Test.YtmngcnhnpfnloaaDoorRetTmp
namespace Go.Proofs.YtmngcnhnpfnloaaDoor
open Go.RowKit

theorem bitsFrom_min {n : Nat} : ∀ k w j, w ≤ j → j < bitsFrom n k w → 2 ^ (2 * j) < n
  | 0, w, j, h1, h2 => by rw [bitsFrom] at h2; omega
  | k + 1, w, j, h1, h2 => by
    rw [bitsFrom] at h2
    by_cases hc : n ≤ 2 ^ (2 * w)
    · rw [if_pos hc] at h2; omega
    · rw [if_neg hc] at h2
      rcases Nat.lt_or_ge w j with h | h
      · exact bitsFrom_min k (w + 1) j h h2
      · obtain rfl : j = w := by omega
        omega
theorem bitsN_min {n j : Nat} (h1 : 1 ≤ j) (h2 : j < bitsN n) : 2 ^ (2 * j) < n := bitsFrom_min 10 1 j h1 h2

theorem wrap_pow (k : Nat) (hk : k ≤ 10) : wrap64 ((2 : Int) ^ (2 * k)) = ((2 ^ (2 * k) : Nat) : Int) := by
  have hp2 : 2 ^ (2 * k) ≤ 2 ^ 20 := Nat.pow_le_pow_right (by omega) (by omega)
  rw [show (2 : Int) ^ (2 * k) = ((2 ^ (2 * k) : Nat) : Int) from by simp]
  generalize 2 ^ (2 * k) = y at *
  exact IntWalk.wrap64_in (y : Int) (by omega)

abbrev gRange11 : Nat := 0

theorem new_bad (a : Value) (n : Int) (w : World) (z : Addr) (hz : SentAt gRange11 w z) (hn : n < 1 ∨ 1048576 < n) :
    Calls Tryd.prog 8 #[a, .int .i64 n] w fun e w' => e = .returned (.tuple #[.pointer none, .iface 104 (.pointer (some z))]) ∧ Below w.heap.size w w' := by
  have hg : ∀ n, (w.drewN n).cell? ⟨gRange11, 0, none⟩ = some (.iface 104 (.pointer (some z))) := fun _ => hz
  have hg0 : w.cell? ⟨gRange11, 0, none⟩ = some (.iface 104 (.pointer (some z))) := hz
  unfold gRange11 at hg hg0
  replace hz := Lib.hid hz
  by_cases h1 : n < 1
  · clear hn
    go_enter Tryd.func8, Tryd.ntmps8
    go_wp2_with fail
    go_quiet (fail)
    go_wp2_with fail
    go_ret2
    exact ⟨rfl, below_drewN (Below.refl _ _) _⟩
  · have h2 : 1048576 < n := by omega
    clear hn
    go_enter Tryd.func8, Tryd.ntmps8
    go_wp2_with fail
    go_quiet (fail)
    go_wp2_with fail
    go_ret2
    exact ⟨rfl, below_drewN (Below.refl _ _) _⟩

set_option maxHeartbeats 1000000 in
theorem new_ok (ak : Option Addr) (ck : Nat) (key : List UInt8) (n : Nat) (w : World) (hk : ArgB w ak ck key) (hkl : key.length ≤ 10000) (h1 : 1 ≤ n) (h2 : n ≤ 1048576) (hK : ShaK w) (hF : ShaF w) :
    Calls Tryd.prog 8 #[.slice ak key.length ck, .int .i64 (n : Int)] w fun e w' => ∃ b, e = .returned (.tuple #[.pointer (some ⟨b, 0, none⟩), .nilIface]) ∧ OrdAt w' b key n (bitsN n) ∧ Below w.heap.size w w' := by
  have hmk := Lib.hid (macMake_any ak ck key w hk hkl hK hF)
  obtain ⟨hB1, hB2, hB3⟩ := bitsN_all h2
  have hmin := Lib.hid (fun j a b => bitsN_min (n := n) (j := j) a b)
  have hn1 : (1 : Int) ≤ n := by omega
  have hn2 : (n : Int) ≤ 1048576 := by omega
  replace hB3 := Lib.hid hB3
  generalize bitsN n = B at *
  clear hK hF hk
  go_enter Tryd.func8, Tryd.ntmps8
  go_wp2_with fail
  go_loop [6] (fun v => ∃ k : Nat, 1 ≤ k ∧ k ≤ B ∧ v = .int .i64 k) (fun v => B - (intOf v).toNat)
  case atStart => exact ⟨1, Nat.le_refl _, hB1, rfl⟩
  case round =>
    obtain ⟨k, hk1, hk2, rfl⟩ := hrel
    have hk1i : (1 : Int) ≤ k := by omega
    have hk2i : (k : Int) ≤ 10 := by omega
    by_cases hlt : k < B
    · have hm : wrap64 ((2 : Int) ^ (2 * k)) < (n : Int) := by
        rw [wrap_pow k (by omega)]
        exact Int.ofNat_lt.2 (hmin.out k hk1 hlt)
      go_wp2_with fail
      exact ⟨⟨k + 1, by omega, by omega, by go_num⟩, by simp [intOf]; omega⟩
    · obtain rfl : k = B := by omega
      have hm : (n : Int) ≤ wrap64 ((2 : Int) ^ (2 * k)) := by
        rw [wrap_pow k (by omega)]
        exact Int.ofNat_le.2 hB3.out
      go_wp2_with fail
      with_reducible refine hmk.out.mono ?_
      rintro e w1 ⟨b, rfl, hkey, hb1⟩
      have hb2 := Lib.hid (hb1.alloc hb1.size (.cells #[.pointer (some ⟨b, 0, none⟩), .int .i64 (n : Int), .int .i64 (k : Int)] 45))
      have hor := Lib.hid (show OrdAt (w1.alloc (.cells #[.pointer (some ⟨b, 0, none⟩), .int .i64 (n : Int), .int .i64 (k : Int)] 45)) w1.heap.size key n k from ⟨b, hkey.below ((Below.refl _ w1).alloc (Nat.le_refl _) _), heap_alloc_new w1 _⟩)
      clear hkey hb1 hmk
      go_wp2_with fail
      go_ret2
      exact ⟨w1.heap.size, rfl, hor.out, hb2.out⟩

end Go.Proofs.YtmngcnhnpfnloaaDoor
