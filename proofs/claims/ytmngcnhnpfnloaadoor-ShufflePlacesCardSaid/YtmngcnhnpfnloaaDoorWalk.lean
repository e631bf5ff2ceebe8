/- The walks over (*shuffle.Order).walk (by step, by back), To, From. (Printed by n11/gen_walk.py.) -/
import Derived.Test.YtmngcnhnpfnloaaDoorNew
import Derived.Deep.LoopGhost
namespace Go.Proofs.YtmngcnhnpfnloaaDoor
open Go.RowKit

theorem walk_bad (b : Nat) (key : List UInt8) (size bits : Nat) (x : Int) (f : Value) (w : World) (z : Addr) (hz : SentAt gRange11 w z) (hO : OrdAt w b key size bits) (hx : x < 0 ∨ (size : Int) ≤ x) :
    Calls Tryd.prog 20 #[.pointer (some ⟨b, 0, none⟩), .int .i64 x, f] w fun e w' => e = .returned (.tuple #[.int .i64 0, .iface 104 (.pointer (some z))]) ∧ Below w.heap.size w w' := by
  have hg : ∀ n, (w.drewN n).cell? ⟨gRange11, 0, none⟩ = some (.iface 104 (.pointer (some z))) := fun _ => hz
  have hg0 : w.cell? ⟨gRange11, 0, none⟩ = some (.iface 104 (.pointer (some z))) := hz
  unfold gRange11 at hg hg0
  replace hz := Lib.hid hz
  have hsz := hO.size
  replace hO := Lib.hid hO
  by_cases h1 : x < 0
  · clear hx
    go_enter Tryd.func20, Tryd.ntmps20
    go_wp2_with fail
    go_quiet (fail)
    go_wp2_with fail
    go_ret2
    exact ⟨rfl, below_drewN (Below.refl _ _) _⟩
  · have h2 : (size : Int) ≤ x := by omega
    clear hx
    go_enter Tryd.func20, Tryd.ntmps20
    go_wp2_with fail
    go_quiet (fail)
    go_wp2_with fail
    go_ret2
    exact ⟨rfl, below_drewN (Below.refl _ _) _⟩

set_option maxRecDepth 10000 in
set_option maxHeartbeats 1000000 in
theorem walk_step (b : Nat) (key : List UInt8) (size bits x k : Nat) (w : World) (hO : OrdAt w b key size bits) (hx : x < size) (hs : size ≤ 2 ^ (2 * bits)) (hb1 : 1 ≤ bits) (hb2 : bits ≤ 10) (hK : ShaK w) (hF : ShaF w)
    (hk : First (stepN (rnd key bits) bits) size x k) :
    Calls Tryd.prog 20 #[.pointer (some ⟨b, 0, none⟩), .int .i64 (x : Int), .func (Fn.func 21) #[.pointer (some ⟨b, 0, none⟩)] #[]] w fun e w' => e = .returned (.tuple #[.int .i64 ((itr (stepN (rnd key bits) bits) k x : Nat) : Int), .nilIface]) ∧ Below w.heap.size w w' := by
  have hsz := hO.size
  have hxi : ¬ (x : Int) < 0 := by omega
  have hxj : (x : Int) < size := by omega
  have hfl := Lib.hid (stepN_lt (rnd_lt key bits))
  have hil := Lib.hid (fun j => itr_lt (stepN_lt (rnd_lt key bits)) (show x < 2 ^ (2 * bits) by omega) j)
  have hst := Lib.hid (fun X W A B C D => step_any b key size bits X W A B hb1 hb2 C D)
  have hkp := hk.pos
  have hk1 := Lib.hid hk.here
  have hk2 := Lib.hid hk.rest
  replace hO := Lib.hid hO; replace hK := Lib.hid hK; replace hF := Lib.hid hF; replace hk := Lib.hid hk; replace hs := Lib.hid hs
  have hsu := Lib.hid (fun j => show itr (stepN (rnd key bits) bits) (j + 1) x = stepN (rnd key bits) bits (itr (stepN (rnd key bits) bits) j x) from rfl)
  have h20 := Lib.hid (show 2 ^ (2 * bits) ≤ 2 ^ 20 from Nat.pow_le_pow_right (by omega) (by omega))
  generalize stepN (rnd key bits) bits = f at *
  have h0 := Lib.hid (show itr f 0 x = x from rfl)
  go_enter Tryd.func20, Tryd.ntmps20
  go_wp2_with fail
  go_loopg [1] k (fun g p wr => ∃ j : Nat, j < k ∧ j + g = k ∧ p = .int .i64 ((itr f j x : Nat) : Int) ∧ Below w.heap.size w wr)
  case atStart => exact ⟨0, hkp, Nat.zero_add _, by rw [h0.out], Below.refl _ _⟩
  case round =>
    obtain ⟨j, hj, hjg, rfl, hB⟩ := hrel
    have hc := Lib.hid (hst.out (itr f j x) wr (hO.out.below hB) (hil.out j) (hK.out.below hB) (hF.out.below hB))
    have hn := hsu.out j
    rw [← hn] at hc
    have hlt := hil.out (j + 1)
    have h2i : ((itr f (j + 1) x : Nat) : Int) < 1048576 := by have := h20.out; omega
    by_cases he : j + 1 = k
    · have hh := hk1.out
      rw [he] at hc h2i
      have hhi : ((itr f k x : Nat) : Int) < (size : Int) := by omega
      replace hB := Lib.hid hB; replace hjg := Lib.hid hjg; replace he := Lib.hid he; replace hlt := Lib.hid hlt; replace hn := Lib.hid hn
      generalize itr f j x = u at *
      go_wp2_with fail
      with_reducible refine hc.out.mono ?_
      rintro e w2 ⟨rfl, hB2⟩
      have hB3 := Lib.hid (hB.out.trans (hB2.mono hB.out.size))
      have hs2 := (hO.out.below hB3.out).size
      clear hB2 hc
      go_wp2_with fail
      go_ret2
      exact ⟨rfl, hB3.out⟩
    · have hh := hk2.out (j + 1) (by omega) (by omega)
      have hhi : decide (itr f (j + 1) x < size) = false := by simp; omega
      have hjk := Lib.hid (show j + 1 < k by omega)
      obtain ⟨g', hg'⟩ : ∃ g', gk = g' + 1 := ⟨gk - 1, by omega⟩
      have hjg2 := Lib.hid (show j + 1 + g' = k by omega)
      replace hB := Lib.hid hB; replace hjg := Lib.hid hjg; replace he := Lib.hid he; replace hlt := Lib.hid hlt; replace hn := Lib.hid hn; replace hg' := Lib.hid hg'; replace hh := Lib.hid hh
      have hy := Lib.hid (rfl : itr f (j + 1) x = itr f (j + 1) x)
      generalize hyy : itr f (j + 1) x = y at hc hh hhi h2i
      replace hyy := Lib.hid hyy
      generalize itr f j x = u at *
      go_wp2_with fail
      with_reducible refine hc.out.mono ?_
      rintro e w2 ⟨rfl, hB2⟩
      have hB3 := Lib.hid (hB.out.trans (hB2.mono hB.out.size))
      have hs2 := (hO.out.below hB3.out).size
      clear hB2 hc
      go_wp2_with fail
      go_roundg g'
      case measure => have := hg'.out; omega
      case rel => exact ⟨j + 1, hjk.out, hjg2.out, by rw [hyy.out], hB3.out⟩

set_option maxHeartbeats 1000000 in
theorem oTo_any (b : Nat) (key : List UInt8) (size bits x : Nat) (w : World) (hO : OrdAt w b key size bits) (hx : x < size) (hs : size ≤ 2 ^ (2 * bits)) (hb1 : 1 ≤ bits) (hb2 : bits ≤ 10) (hK : ShaK w) (hF : ShaF w) :
    Calls Tryd.prog 9 #[.pointer (some ⟨b, 0, none⟩), .int .i64 (x : Int)] w fun e w' => e = .returned (.tuple #[.int .i64 ((place (stepN (rnd key bits) bits) size (2 ^ (2 * bits)) x : Nat) : Int), .nilIface]) ∧ Below w.heap.size w w' := by
  obtain ⟨k, hk, hkN⟩ := first_of (stepN_lt (rnd_lt key bits)) (back_step (rnd_lt key bits)) hs hx
  rw [place_at (2 ^ (2 * bits)) x k hk hkN]
  have hw := Lib.hid (walk_step b key size bits x k w hO hx hs hb1 hb2 hK hF hk)
  clear hO hx hs hb1 hb2 hK hF hk hkN
  generalize itr (stepN (rnd key bits) bits) k x = y at *
  go_enter Tryd.func9, Tryd.ntmps9
  go_wp2_with fail
  with_reducible refine hw.out.mono ?_
  rintro e w2 ⟨rfl, hB2⟩
  replace hB2 := Lib.hid hB2
  clear hw
  go_wp2_with fail
  go_ret2
  exact ⟨rfl, hB2.out⟩

theorem oTo_bad (b : Nat) (key : List UInt8) (size bits : Nat) (x : Int) (w : World) (z : Addr) (hz : SentAt gRange11 w z) (hO : OrdAt w b key size bits) (hx : x < 0 ∨ (size : Int) ≤ x) :
    Calls Tryd.prog 9 #[.pointer (some ⟨b, 0, none⟩), .int .i64 x] w fun e w' => e = .returned (.tuple #[.int .i64 0, .iface 104 (.pointer (some z))]) ∧ Below w.heap.size w w' := by
  have hw := Lib.hid (walk_bad b key size bits x (.func (Fn.func 21) #[.pointer (some ⟨b, 0, none⟩)] #[]) w z hz hO hx)
  clear hO hx hz
  go_enter Tryd.func9, Tryd.ntmps9
  go_wp2_with fail
  with_reducible refine hw.out.mono ?_
  rintro e w2 ⟨rfl, hB2⟩
  replace hB2 := Lib.hid hB2
  clear hw
  go_wp2_with fail
  go_ret2
  exact ⟨rfl, hB2.out⟩

set_option maxRecDepth 10000 in
set_option maxHeartbeats 1000000 in
theorem walk_back (b : Nat) (key : List UInt8) (size bits x k : Nat) (w : World) (hO : OrdAt w b key size bits) (hx : x < size) (hs : size ≤ 2 ^ (2 * bits)) (hb1 : 1 ≤ bits) (hb2 : bits ≤ 10) (hK : ShaK w) (hF : ShaF w)
    (hk : First (backN (rnd key bits) bits) size x k) :
    Calls Tryd.prog 20 #[.pointer (some ⟨b, 0, none⟩), .int .i64 (x : Int), .func (Fn.func 22) #[.pointer (some ⟨b, 0, none⟩)] #[]] w fun e w' => e = .returned (.tuple #[.int .i64 ((itr (backN (rnd key bits) bits) k x : Nat) : Int), .nilIface]) ∧ Below w.heap.size w w' := by
  have hsz := hO.size
  have hxi : ¬ (x : Int) < 0 := by omega
  have hxj : (x : Int) < size := by omega
  have hfl := Lib.hid (backN_lt (rnd_lt key bits))
  have hil := Lib.hid (fun j => itr_lt (backN_lt (rnd_lt key bits)) (show x < 2 ^ (2 * bits) by omega) j)
  have hst := Lib.hid (fun X W A B C D => back_any b key size bits X W A B hb1 hb2 C D)
  have hkp := hk.pos
  have hk1 := Lib.hid hk.here
  have hk2 := Lib.hid hk.rest
  replace hO := Lib.hid hO; replace hK := Lib.hid hK; replace hF := Lib.hid hF; replace hk := Lib.hid hk; replace hs := Lib.hid hs
  have hsu := Lib.hid (fun j => show itr (backN (rnd key bits) bits) (j + 1) x = backN (rnd key bits) bits (itr (backN (rnd key bits) bits) j x) from rfl)
  have h20 := Lib.hid (show 2 ^ (2 * bits) ≤ 2 ^ 20 from Nat.pow_le_pow_right (by omega) (by omega))
  generalize backN (rnd key bits) bits = f at *
  have h0 := Lib.hid (show itr f 0 x = x from rfl)
  go_enter Tryd.func20, Tryd.ntmps20
  go_wp2_with fail
  go_loopg [1] k (fun g p wr => ∃ j : Nat, j < k ∧ j + g = k ∧ p = .int .i64 ((itr f j x : Nat) : Int) ∧ Below w.heap.size w wr)
  case atStart => exact ⟨0, hkp, Nat.zero_add _, by rw [h0.out], Below.refl _ _⟩
  case round =>
    obtain ⟨j, hj, hjg, rfl, hB⟩ := hrel
    have hc := Lib.hid (hst.out (itr f j x) wr (hO.out.below hB) (hil.out j) (hK.out.below hB) (hF.out.below hB))
    have hn := hsu.out j
    rw [← hn] at hc
    have hlt := hil.out (j + 1)
    have h2i : ((itr f (j + 1) x : Nat) : Int) < 1048576 := by have := h20.out; omega
    by_cases he : j + 1 = k
    · have hh := hk1.out
      rw [he] at hc h2i
      have hhi : ((itr f k x : Nat) : Int) < (size : Int) := by omega
      replace hB := Lib.hid hB; replace hjg := Lib.hid hjg; replace he := Lib.hid he; replace hlt := Lib.hid hlt; replace hn := Lib.hid hn
      generalize itr f j x = u at *
      go_wp2_with fail
      with_reducible refine hc.out.mono ?_
      rintro e w2 ⟨rfl, hB2⟩
      have hB3 := Lib.hid (hB.out.trans (hB2.mono hB.out.size))
      have hs2 := (hO.out.below hB3.out).size
      clear hB2 hc
      go_wp2_with fail
      go_ret2
      exact ⟨rfl, hB3.out⟩
    · have hh := hk2.out (j + 1) (by omega) (by omega)
      have hhi : decide (itr f (j + 1) x < size) = false := by simp; omega
      have hjk := Lib.hid (show j + 1 < k by omega)
      obtain ⟨g', hg'⟩ : ∃ g', gk = g' + 1 := ⟨gk - 1, by omega⟩
      have hjg2 := Lib.hid (show j + 1 + g' = k by omega)
      replace hB := Lib.hid hB; replace hjg := Lib.hid hjg; replace he := Lib.hid he; replace hlt := Lib.hid hlt; replace hn := Lib.hid hn; replace hg' := Lib.hid hg'; replace hh := Lib.hid hh
      have hy := Lib.hid (rfl : itr f (j + 1) x = itr f (j + 1) x)
      generalize hyy : itr f (j + 1) x = y at hc hh hhi h2i
      replace hyy := Lib.hid hyy
      generalize itr f j x = u at *
      go_wp2_with fail
      with_reducible refine hc.out.mono ?_
      rintro e w2 ⟨rfl, hB2⟩
      have hB3 := Lib.hid (hB.out.trans (hB2.mono hB.out.size))
      have hs2 := (hO.out.below hB3.out).size
      clear hB2 hc
      go_wp2_with fail
      go_roundg g'
      case measure => have := hg'.out; omega
      case rel => exact ⟨j + 1, hjk.out, hjg2.out, by rw [hyy.out], hB3.out⟩

set_option maxHeartbeats 1000000 in
theorem oFrom_any (b : Nat) (key : List UInt8) (size bits x : Nat) (w : World) (hO : OrdAt w b key size bits) (hx : x < size) (hs : size ≤ 2 ^ (2 * bits)) (hb1 : 1 ≤ bits) (hb2 : bits ≤ 10) (hK : ShaK w) (hF : ShaF w) :
    Calls Tryd.prog 10 #[.pointer (some ⟨b, 0, none⟩), .int .i64 (x : Int)] w fun e w' => e = .returned (.tuple #[.int .i64 ((place (backN (rnd key bits) bits) size (2 ^ (2 * bits)) x : Nat) : Int), .nilIface]) ∧ Below w.heap.size w w' := by
  obtain ⟨k, hk, hkN⟩ := first_of (backN_lt (rnd_lt key bits)) (step_back (rnd_lt key bits)) hs hx
  rw [place_at (2 ^ (2 * bits)) x k hk hkN]
  have hw := Lib.hid (walk_back b key size bits x k w hO hx hs hb1 hb2 hK hF hk)
  clear hO hx hs hb1 hb2 hK hF hk hkN
  generalize itr (backN (rnd key bits) bits) k x = y at *
  go_enter Tryd.func10, Tryd.ntmps10
  go_wp2_with fail
  with_reducible refine hw.out.mono ?_
  rintro e w2 ⟨rfl, hB2⟩
  replace hB2 := Lib.hid hB2
  clear hw
  go_wp2_with fail
  go_ret2
  exact ⟨rfl, hB2.out⟩

theorem oFrom_bad (b : Nat) (key : List UInt8) (size bits : Nat) (x : Int) (w : World) (z : Addr) (hz : SentAt gRange11 w z) (hO : OrdAt w b key size bits) (hx : x < 0 ∨ (size : Int) ≤ x) :
    Calls Tryd.prog 10 #[.pointer (some ⟨b, 0, none⟩), .int .i64 x] w fun e w' => e = .returned (.tuple #[.int .i64 0, .iface 104 (.pointer (some z))]) ∧ Below w.heap.size w w' := by
  have hw := Lib.hid (walk_bad b key size bits x (.func (Fn.func 22) #[.pointer (some ⟨b, 0, none⟩)] #[]) w z hz hO hx)
  clear hO hx hz
  go_enter Tryd.func10, Tryd.ntmps10
  go_wp2_with fail
  with_reducible refine hw.out.mono ?_
  rintro e w2 ⟨rfl, hB2⟩
  replace hB2 := Lib.hid hB2
  clear hw
  go_wp2_with fail
  go_ret2
  exact ⟨rfl, hB2.out⟩

end Go.Proofs.YtmngcnhnpfnloaaDoor
