/- The walk over baileelaw23.NumberNext. -/
import Derived.Test.YtfagjlfnmkfjoaaDoorNum
import Derived.Test.YtfagjlfnmkfjoaaDoorAlive
namespace Go.Proofs.YtfagjlfnmkfjoaaDoor
open Go.RowKit

set_option maxHeartbeats 400000 in
theorem next_none (g : Int) (w : World) : Calls Tryd.prog 5 #[.int .i64 g, .bool false] w fun e w' => e = .returned (.tuple #[.int .i64 0, .nilIface]) ∧ w = w' := by
  go_enter Tryd.func5, Tryd.ntmps5
  go_wp2
  go_ret2
  exact ⟨rfl, rfl⟩
set_option maxHeartbeats 400000 in
theorem next_neg (g : Int) (hg : g < 0) (x : Addr) (w : World) (hx : w.cell? ⟨0, 0, none⟩ = some (.iface 51 (.pointer (some x)))) :
    Calls Tryd.prog 5 #[.int .i64 g, .bool true] w fun e w' => e = .returned (.tuple #[.int .i64 0, .iface 51 (.pointer (some x))]) ∧ ∃ n, w' = w.drewN n := by
  go_enter Tryd.func5, Tryd.ntmps5
  go_wp2
  go_quiet (fail)
  go_wp2
  go_ret2
  exact ⟨rfl, _, rfl⟩
set_option maxHeartbeats 400000 in
theorem next_full (g : Int) (hg : 1099511627776 ≤ g) (x : Addr) (w : World) (hx : w.cell? ⟨1, 0, none⟩ = some (.iface 51 (.pointer (some x)))) :
    Calls Tryd.prog 5 #[.int .i64 g, .bool true] w fun e w' => e = .returned (.tuple #[.int .i64 0, .iface 51 (.pointer (some x))]) ∧ ∃ n, w' = w.drewN n := by
  go_enter Tryd.func5, Tryd.ntmps5
  go_wp2
  go_quiet (fail)
  go_wp2
  go_ret2
  exact ⟨rfl, _, rfl⟩
set_option maxHeartbeats 400000 in
theorem next_some (g : Int) (h0 : 0 ≤ g) (hg : g < 1099511627776) (w : World) :
    Calls Tryd.prog 5 #[.int .i64 g, .bool true] w fun e w' => e = .returned (.tuple #[.int .i64 (g + 1), .nilIface]) ∧ w = w' := by
  go_enter Tryd.func5, Tryd.ntmps5
  go_wp2
  go_ret2
  exact ⟨rfl, rfl⟩

set_option maxHeartbeats 1000000 in
theorem nextLaw_walk (g : Int) (is : Bool) (w : World) (wf : (Lit.int .i64 g).wf = true) (a : Nat → Addr) (H : Errs 51 errGs w a) :
    Calls Tryd.prog 3 #[.int .i64 g, .bool is] w fun e w' => e = .returned (.bool true) ∧ Below w.heap.size w w' := by
  have H := Lib.hid H
  have hgl : -9223372036854775808 ≤ g ∧ g ≤ 9223372036854775807 := by simpa [Lit.wf, IntKind.min, IntKind.max, IntKind.signed, IntKind.bits] using wf
  clear wf
  cases is
  · go_enter Tryd.func3, Tryd.ntmps3
    go_wp2_with fail
    refine (alive_any _).mono ?_
    rintro e w1 ⟨rfl, hb1⟩
    go_wp2_with fail
    refine (next_none _ _).mono ?_
    rintro e w2 ⟨rfl, rfl⟩
    go_wp2_with fail
    go_ret
    exact ⟨rfl, hb1⟩
  · rcases (show g < 0 ∨ 1099511627776 ≤ g ∨ (0 ≤ g ∧ g < 1099511627776) from by omega) with hg | hg | ⟨hg, hg'⟩
    · go_enter Tryd.func3, Tryd.ntmps3
      go_wp2_with fail
      refine (alive_any _).mono ?_
      rintro e w1 ⟨rfl, hb1⟩
      have H1 := Lib.hid (H.out.below hb1)
      go_wp2_with fail
      refine (next_neg g hg (a 0) _ (H1.out.var 0 (by decide))).mono ?_
      rintro e w2 ⟨rfl, n, rfl⟩
      go_wp2_with fail
      refine (num_err 0 (by omega) a _ (H1.out.below (below_drewN (Below.refl _ _) n))).mono ?_
      rintro e w3 ⟨rfl, hb3⟩
      go_wp2_with fail
      go_ret
      exact ⟨rfl, (below_drewN hb1 n).trans (hb3.mono hb1.size)⟩
    · go_enter Tryd.func3, Tryd.ntmps3
      go_wp2_with fail
      refine (alive_any _).mono ?_
      rintro e w1 ⟨rfl, hb1⟩
      have H1 := Lib.hid (H.out.below hb1)
      go_wp2_with fail
      refine (next_full g hg (a 11) _ (H1.out.var 11 (by decide))).mono ?_
      rintro e w2 ⟨rfl, n, rfl⟩
      go_wp2_with fail
      refine (num_err 11 (by omega) a _ (H1.out.below (below_drewN (Below.refl _ _) n))).mono ?_
      rintro e w3 ⟨rfl, hb3⟩
      go_wp2_with fail
      go_ret
      exact ⟨rfl, (below_drewN hb1 n).trans (hb3.mono hb1.size)⟩
    · go_enter Tryd.func3, Tryd.ntmps3
      go_wp2_with fail
      refine (alive_any _).mono ?_
      rintro e w1 ⟨rfl, hb1⟩
      go_wp2_with fail
      refine (next_some g hg hg' _).mono ?_
      rintro e w2 ⟨rfl, rfl⟩
      go_wp2_with fail
      go_ret
      exact ⟨by simp, hb1⟩

end Go.Proofs.YtfagjlfnmkfjoaaDoor
