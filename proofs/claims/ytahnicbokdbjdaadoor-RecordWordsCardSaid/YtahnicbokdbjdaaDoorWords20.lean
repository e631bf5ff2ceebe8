/- The walk over baileelaw20.RecordWords. -/
import Derived.Test.YtahnicbokdbjdaaDoorRecB
namespace Go.Proofs.YtahnicbokdbjdaaDoor
open Go.RowKit

theorem word1 (w : World) : Calls Tryd.prog 7 #[.int .i64 1] w fun e w' => e = .returned (.string ⟨#[112, 97, 115, 115]⟩) ∧ w = w' := by
  go_enter Tryd.func7, Tryd.ntmps7
  go_wp2_with fail
  go_ret
  exact ⟨rfl, rfl⟩
theorem word2 (w : World) : Calls Tryd.prog 7 #[.int .i64 2] w fun e w' => e = .returned (.string ⟨#[102, 97, 105, 108]⟩) ∧ w = w' := by
  go_enter Tryd.func7, Tryd.ntmps7
  go_wp2_with fail
  go_ret
  exact ⟨rfl, rfl⟩
theorem word3 (w : World) : Calls Tryd.prog 7 #[.int .i64 3] w fun e w' => e = .returned (.string ⟨#[116, 105, 109, 101, 111, 117, 116]⟩) ∧ w = w' := by
  go_enter Tryd.func7, Tryd.ntmps7
  go_wp2_with fail
  go_ret
  exact ⟨rfl, rfl⟩
theorem way1 (w : World) : Calls Tryd.prog 8 #[.int .i64 1] w fun e w' => e = .returned (.string ⟨#[115, 112, 111, 116]⟩) ∧ w = w' := by
  go_enter Tryd.func8, Tryd.ntmps8
  go_wp2_with fail
  go_ret
  exact ⟨rfl, rfl⟩
theorem way2 (w : World) : Calls Tryd.prog 8 #[.int .i64 2] w fun e w' => e = .returned (.string ⟨#[115, 101, 110, 116, 105, 110, 101, 108]⟩) ∧ w = w' := by
  go_enter Tryd.func8, Tryd.ntmps8
  go_wp2_with fail
  go_ret
  exact ⟨rfl, rfl⟩
theorem wordN (n : Int) (h1 : n ≠ 1) (h2 : n ≠ 2) (h3 : n ≠ 3) (w : World) : Calls Tryd.prog 7 #[.int .i64 n] w fun e w' => e = .returned (.string ⟨#[]⟩) ∧ w = w' := by
  have e1 : (n == 1) = false := by simpa using h1
  have e2 : (n == 2) = false := by simpa using h2
  have e3 : (n == 3) = false := by simpa using h3
  go_enter Tryd.func7, Tryd.ntmps7
  go_wp2_with fail
  go_ret
  exact ⟨rfl, rfl⟩
theorem wayN (n : Int) (h1 : n ≠ 1) (h2 : n ≠ 2) (w : World) : Calls Tryd.prog 8 #[.int .i64 n] w fun e w' => e = .returned (.string ⟨#[]⟩) ∧ w = w' := by
  have e1 : (n == 1) = false := by simpa using h1
  have e2 : (n == 2) = false := by simpa using h2
  go_enter Tryd.func8, Tryd.ntmps8
  go_wp2_with fail
  go_ret
  exact ⟨rfl, rfl⟩

set_option maxRecDepth 100000 in
set_option maxHeartbeats 1000000 in
theorem alive20 (w : World) : Calls Tryd.prog 6 #[] w fun e w' => e = .returned (.bool true) ∧ Below w.heap.size w w' := by
  have hby := Lib.hid (bytes_rec w)
  go_enter Tryd.func6, Tryd.ntmps6
  go_wp2_with fail
  refine Calls.mono (hby.out) ?_
  rintro e w1 ⟨a, c, rfl, hb⟩
  replace hb := Lib.hid hb
  clear hby
  go_wp2_with fail
  go_ret
  exact ⟨rfl, hb.out⟩

set_option maxHeartbeats 1000000 in
theorem words_walk (n : Int) (w : World) (_ : (Lit.int IntKind.i64 n).wf = true) : Calls Tryd.prog 3 #[.int .i64 n] w fun e w' => e = .returned (.bool true) ∧ Below w.heap.size w w' := by
  have hal := Lib.hid (alive20 w)
  rcases (show n = 1 ∨ n = 2 ∨ n = 3 ∨ n < 1 ∨ 3 < n from by omega) with rfl | rfl | rfl | hn | hn
  · skip
    go_enter Tryd.func3, Tryd.ntmps3
    go_wp2_with fail
    with_reducible refine hal.out.mono ?_
    rintro e w1 ⟨rfl, hb⟩
    replace hb := Lib.hid hb
    clear hal
    go_wp2_with fail
    with_reducible refine (word1 _).mono ?_
    rintro e w2 ⟨rfl, rfl⟩
    go_wp2_with fail
    with_reducible refine (way1 _).mono ?_
    rintro e w3 ⟨rfl, rfl⟩
    go_wp2_with fail
    go_ret
    exact ⟨rfl, by first | exact hb.out | exact (hb.out.alloc hb.out.size _).alloc (Nat.le_trans hb.out.size (by simp)) _ | exact hb.out.alloc hb.out.size _⟩
  · skip
    go_enter Tryd.func3, Tryd.ntmps3
    go_wp2_with fail
    with_reducible refine hal.out.mono ?_
    rintro e w1 ⟨rfl, hb⟩
    replace hb := Lib.hid hb
    clear hal
    go_wp2_with fail
    with_reducible refine (word2 _).mono ?_
    rintro e w2 ⟨rfl, rfl⟩
    go_wp2_with fail
    with_reducible refine (way2 _).mono ?_
    rintro e w3 ⟨rfl, rfl⟩
    go_wp2_with fail
    go_ret
    exact ⟨rfl, by first | exact hb.out | exact (hb.out.alloc hb.out.size _).alloc (Nat.le_trans hb.out.size (by simp)) _ | exact hb.out.alloc hb.out.size _⟩
  · have hwn := fun w => wayN 3 (by decide) (by decide) w
    go_enter Tryd.func3, Tryd.ntmps3
    go_wp2_with fail
    with_reducible refine hal.out.mono ?_
    rintro e w1 ⟨rfl, hb⟩
    replace hb := Lib.hid hb
    clear hal
    go_wp2_with fail
    with_reducible refine (word3 _).mono ?_
    rintro e w2 ⟨rfl, rfl⟩
    go_wp2_with fail
    with_reducible refine (hwn _).mono ?_
    rintro e w3 ⟨rfl, rfl⟩
    go_wp2_with fail
    go_ret
    exact ⟨rfl, by first | exact hb.out | exact hb.out.alloc hb.out.size _⟩
  · have hwo := Lib.hid (fun w => wordN n (by omega) (by omega) (by omega) w)
    have hwa := Lib.hid (fun w => wayN n (by omega) (by omega) w)
    have d1 : (1 ≤ n) = False := by simp; omega
    have d2 : True := trivial
    have d3 : True := trivial
    clear hn
    go_enter Tryd.func3, Tryd.ntmps3
    go_wp2_with fail
    with_reducible refine hal.out.mono ?_
    rintro e w1 ⟨rfl, hb⟩
    replace hb := Lib.hid hb
    clear hal
    go_wp2_with fail
    with_reducible refine (hwo.out _).mono ?_
    rintro e w2 ⟨rfl, rfl⟩
    go_wp2_with fail
    with_reducible refine (hwa.out _).mono ?_
    rintro e w3 ⟨rfl, rfl⟩
    go_wp2_with fail
    go_ret
    exact ⟨rfl, hb.out⟩
  · have hwo := Lib.hid (fun w => wordN n (by omega) (by omega) (by omega) w)
    have hwa := Lib.hid (fun w => wayN n (by omega) (by omega) w)
    have d1 : (1 ≤ n) = True := by simp; omega
    have d2 : (n ≤ 3) = False := by simp; omega
    have d3 : (n ≤ 2) = False := by simp; omega
    clear hn
    go_enter Tryd.func3, Tryd.ntmps3
    go_wp2_with fail
    with_reducible refine hal.out.mono ?_
    rintro e w1 ⟨rfl, hb⟩
    replace hb := Lib.hid hb
    clear hal
    go_wp2_with fail
    with_reducible refine (hwo.out _).mono ?_
    rintro e w2 ⟨rfl, rfl⟩
    go_wp2_with fail
    with_reducible refine (hwa.out _).mono ?_
    rintro e w3 ⟨rfl, rfl⟩
    go_wp2_with fail
    go_ret
    exact ⟨rfl, hb.out⟩

end Go.Proofs.YtahnicbokdbjdaaDoor
