/- OnL, Conv. -/
import Derived.Deep.RegionHeld3
import Derived.Test.YtahnicbokdbjdaaDoorMem
import Derived.Test.YtahnicbokdbjdaaDoorOwnB
/- A region that draws its order of evaluation, whose operations read, make new memory, or call functions that only add to the memory: the condition that is held (Derived/OrdersHeld.lean) is 'the world has only grown since ..'; it is renewed behind each call. -/
namespace Go.Proofs.YtahnicbokdbjdaaDoor
open Go.RowKit

section
variable {P : Program} {ops : Array Oper} {Q : Exit → Act → World → Prop} {md : Region.Mode}

/-- The condition may be made stronger on the way. -/
theorem wpAnyH_weaken {S S' : World → Prop} (h : ∀ w, S' w → S w) : ∀ (fuel : Nat) (listed : Array Bool) (a : Act) (w : World), wpAnyH P md ops Q S' fuel listed a w → wpAnyH P md ops Q S fuel listed a w
  | 0, _, _, _, hh => hh
  | fuel + 1, _, _, _, hh => ⟨hh.1, fun i hi => wpOp_mono (fun a' w' h' => ⟨h _ h'.1, wpAnyH_weaken h fuel _ a' w' h'.2⟩) (hh.2 i hi)⟩

/-- W is w0, with more memory. -/
abbrev Grown (w0 W : World) : Prop := Below w0.heap.size w0 W
theorem Grown.refl (w : World) : Grown w w := Below.refl _ _
theorem Grown.trans {a b c : World} (h : Grown a b) (h' : Grown b c) : Grown a c := Below.trans h (h'.mono h.size)
theorem Grown.drew {a b : World} (h : Grown a b) : Grown a b.drew := Below.trans h (Drawn.below ⟨1, rfl⟩ _)
theorem Grown.alloc {a b : World} (h : Grown a b) (o : Obj) : Grown a (b.alloc o) := Below.alloc h h.size o
theorem wpAnyH_onward {w0 w1 : World} {fuel : Nat} {listed : Array Bool} {a : Act} (h : Grown w0 w1) (hh : Grown w1 w1 → wpAnyH P md ops Q (Grown w1) fuel listed a w1) : wpAnyH P md ops Q (Grown w0) fuel listed a w1 :=
  wpAnyH_weaken (fun _ h' => h.trans h') _ _ _ _ (hh (Grown.refl w1))
theorem wp_region_on {id : Nat} {a : Act} {w : World} (hm : P.follows .mixedOrders = true)
    (h : Grown w w.drew → wpAnyH P .any ops Q (Grown w) ops.size (Array.replicate ops.size false) a w.drew) : (Code.region id ops true).wp P Q a w :=
  wp_region_held_drew hm (Grown.drew (Grown.refl w)) h
theorem wp_region_on2 {id : Nat} {a : Act} {w : World} (hm : P.follows .mixedOrders = true)
    (h : ∀ wd, Grown w wd → wpAnyH P .any ops Q (Grown w) ops.size (Array.replicate ops.size false) a wd) : (Code.region id ops true).wp P Q a w :=
  wp_region_held_drew hm (Grown.drew (Grown.refl w)) (fun h0 => h _ h0)
/-- A block that was made. -/
theorem made_step {K : Act → World → Prop} {w : World} {a : Act} {c : Array Value} {t : TypeId} {fz : Nat × Nat} (h : ∀ w', Hid (w'.heap[w.heap.size]? = some (.cells c t fz)) → Grown w w' → K a w') : K a (w.alloc (.cells c t fz)) :=
  h _ (show _ = _ from heap_alloc_new w _) (Grown.alloc (Grown.refl w) _)
end

end Go.Proofs.YtahnicbokdbjdaaDoor
/- Texts out of bytes, cells and rows, in every world that has only grown since. -/
namespace Go.Proofs.YtahnicbokdbjdaaDoor
open Go.RowKit

theorem convB {w : World} {a : Option Addr} {c : Nat} {bs : List UInt8} (h : ArgB w a c bs) (n : Nat) (hn : bs.length = n) : (convert 36 9 (.slice a n c)).run Tryd.prog w = .ok (.string ⟨bs.toArray⟩) w := by
  subst hn
  exact conv_str bs Tryd.underlying36 Tryd.underlying5 Tryd.underlying9 h.row
theorem convE {w : World} {a : Option Addr} {c : Nat} {bs : List UInt8} (h : ArgB w a c bs) (n : Nat) (hn : bs.length = n) : ∀ W, Grown w W → (convert 36 9 (.slice a n c)).run Tryd.prog W = .ok (.string ⟨bs.toArray⟩) W :=
  fun _ hW => convB (h.below hW) n hn
theorem far_cell {w : World} {x : Addr} {v : Value} (h : w.cell? x = some v) : ∀ W, Grown w W → W.cell? x = some v := fun _ hW => (hW.cell (World.block_lt_of_cell? w _ h)).trans h

end Go.Proofs.YtahnicbokdbjdaaDoor
