/- Walks over disk: Waits, Gone, Size, Sure of no sector; the law's filled. -/
import Derived.Test.YtgkddegaiaeckaaDoorF12SafeSaid
namespace Go.Proofs.YtgkddegaiaeckaaDoor
open Go.RowKit

set_option maxHeartbeats 400000 in
theorem dsize_any (B : Nat) (n : Int) (w : World) (h : w.cell? ⟨B, 0, none⟩ = some (.int .i64 n)) : Calls Tryd.prog 50 #[.pointer (some ⟨B, 0, none⟩)] w fun x w' => x = .returned (.int .i64 n) ∧ w = w' := by
  go_enter Tryd.func50, Tryd.ntmps50
  go_wp2_with fail
  go_ret
  exact ⟨rfl, rfl⟩
set_option maxHeartbeats 400000 in
theorem dsure_no (B : Nat) (n i : Int) (h : i < 0 ∨ n ≤ i) (w : World) (hc : w.cell? ⟨B, 0, none⟩ = some (.int .i64 n)) (e : Nat → Addr) (hE : DErr w e) : Calls Tryd.prog 68 #[.pointer (some ⟨B, 0, none⟩), .int .i64 i] w fun x w' => x = .returned (.tuple #[.slice none 0 0, .iface 161 (.pointer (some (e 0)))]) ∧ w = w' := by
  have hth := Lib.hid (dthere_no B n i h w hc e hE)
  clear h
  go_enter Tryd.func68, Tryd.ntmps68
  go_wp2_with fail
  with_reducible refine hth.out.mono ?_
  rintro x w2 ⟨rfl, hq⟩
  obtain rfl := hq
  clear hth
  go_wp2_with fail
  go_ret2
  exact ⟨rfl, rfl⟩
end Go.Proofs.YtgkddegaiaeckaaDoor
