/- Texts out of bytes, cells and rows, in every world that has only grown since. -/
import Derived.Test.YtgkddegaiaeckaaDoorOnL
import Derived.Test.YtgkddegaiaeckaaDoorOwnB
namespace Go.Proofs.YtgkddegaiaeckaaDoor
open Go.RowKit

theorem convB {w : World} {a : Option Addr} {c : Nat} {bs : List UInt8} (h : ArgB w a c bs) (n : Nat) (hn : bs.length = n) : (convert 22 9 (.slice a n c)).run Tryd.prog w = .ok (.string ⟨bs.toArray⟩) w := by
  subst hn
  exact conv_str bs Tryd.underlying22 Tryd.underlying5 Tryd.underlying9 h.row
theorem convE {w : World} {a : Option Addr} {c : Nat} {bs : List UInt8} (h : ArgB w a c bs) (n : Nat) (hn : bs.length = n) : ∀ W, Grown w W → (convert 22 9 (.slice a n c)).run Tryd.prog W = .ok (.string ⟨bs.toArray⟩) W :=
  fun _ hW => convB (h.below hW) n hn
theorem far_cell {w : World} {x : Addr} {v : Value} (h : w.cell? x = some v) : ∀ W, Grown w W → W.cell? x = some v := fun _ hW => (hW.cell (World.block_lt_of_cell? w _ h)).trans h

end Go.Proofs.YtgkddegaiaeckaaDoor
