/- Walks over baileelaw23.alive and number.New. -/
import Derived.Test.YtfagjlfnmkfjoaaWalks
namespace Go.Proofs.Ytfagjlfnmkfjoaa
open Go.RowKit

set_option maxHeartbeats 400000 in
theorem new_any (w : World) :
    Calls Try.prog 6 #[] w fun e w' => e = .returned (.pointer (some ⟨w.heap.size, 0, none⟩)) ∧ w.alloc (seen false 0 0) = w' := by
  go_enter Try.func6, Try.ntmps6
  go_wp2
  go_ret
  exact ⟨rfl, rfl⟩

set_option maxHeartbeats 400000 in
theorem alive_any (w : World) :
    Calls Try.prog 5 #[] w fun e w' => e = .returned (.bool true) ∧ Below w.heap.size w w' := by
  go_enter Try.func5, Try.ntmps5
  go_wp2_with (go_at_call 6; refine (new_any _).mono ?_; rintro e w' ⟨rfl, rfl⟩)
  have hb : (w.alloc (seen false 0 0)).heap[w.heap.size]? = some (seen false 0 0) := heap_alloc_new w _
  refine (fresh_any false 0 0 5 w.heap.size _ hb (by omega) (by omega) (fun _ => rfl)).mono ?_
  rintro e w1 ⟨rfl, hu1⟩
  have hb1 := hu1.here
  rw [show freshB false 0 0 5 = true from by decide]
  rw [show nextAny false 0 0 5 = true from by decide, show nextG false 0 0 5 = 5 from by decide, show nextC false 0 0 5 = 1 from by decide] at hb1
  go_wp2_with fail
  refine (fresh_any true 5 1 5 w.heap.size _ hb1 (by omega) (by omega) (fun h => by cases h)).mono ?_
  rintro e w2 ⟨rfl, hu2⟩
  have hb2 := hu2.here
  rw [show freshB true 5 1 5 = false from by decide]
  rw [show nextAny true 5 1 5 = true from by decide, show nextG true 5 1 5 = 5 from by decide, show nextC true 5 1 5 = 1 from by decide] at hb2
  obtain ⟨⟨h0, h1, h2⟩, _⟩ := cells3 hb2
  go_wp2_with fail
  refine (has_any true 5 1 5 w.heap.size _ h0 h1 h2 (by omega) (by omega)).mono ?_
  rintro e w3 ⟨rfl, n, rfl⟩
  rw [show hasB true 5 1 5 = true from by decide]
  go_wp2_with fail
  go_ret
  exact ⟨rfl, below_drewN ((((Below.refl _ _).alloc (Nat.le_refl _) _).trans (hu1.below (Nat.le_refl _))).trans (hu2.below (Nat.le_refl _))) n⟩

end Go.Proofs.Ytfagjlfnmkfjoaa
