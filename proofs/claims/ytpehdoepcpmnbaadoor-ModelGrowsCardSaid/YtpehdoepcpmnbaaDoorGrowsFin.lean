/- ModelGrows' walk in the frame's form. -/
import Derived.Test.YtpehdoepcpmnbaaDoorGrowsLaw
import Derived.Test.YtpehdoepcpmnbaaDoorOpenM
namespace Go.Proofs.YtpehdoepcpmnbaaDoor
open Go.RowKit

def modGs : List Nat := [8, 1, 6, 0, 2, 4, 3, 5, 7]
def mz (ea : Nat → Addr) (j : Nat) : Addr := ea (if j = 0 then 0 else if j = 1 then 3 else 8)
theorem mpar_of {w : World} {ea : Nat → Addr} (H : Errs 177 modGs w ea) : ParErrs w (mz ea) := by
  refine ⟨fun i hi => ?_, fun i hi => ?_, fun i j hi hj e => ?_⟩
  · rcases (show i = 0 ∨ i = 1 ∨ i = 2 from by simp [parGs] at hi; omega) with rfl | rfl | rfl
    · exact H.var 0 (by decide)
    · exact H.var 3 (by decide)
    · exact H.var 8 (by decide)
  · rcases (show i = 0 ∨ i = 1 ∨ i = 2 from by simp [parGs] at hi; omega) with rfl | rfl | rfl
    · exact H.obj 0 (by decide)
    · exact H.obj 3 (by decide)
    · exact H.obj 8 (by decide)
  · have hi' : i = 0 ∨ i = 1 ∨ i = 2 := by simp [parGs] at hi; omega
    have hj' : j = 0 ∨ j = 1 ∨ j = 2 := by simp [parGs] at hj; omega
    have := H.inj (if i = 0 then 0 else if i = 1 then 3 else 8) (if j = 0 then 0 else if j = 1 then 3 else 8) (by show _ < 9; split <;> (try split) <;> omega) (by show _ < 9; split <;> (try split) <;> omega) e
    rcases hi' with rfl | rfl | rfl <;> rcases hj' with rfl | rfl | rfl <;> simp_all
theorem grows_walk (va : Value) (a : Md) (vb : Value) (b : Md) (w : World) (ha : ArgM w va a) (hb : ArgM w vb b) (ea : Nat → Addr) (hE : Errs 177 modGs w ea) :
    Calls Tryd.prog 3 #[va, vb] w fun x w' => x = .returned (.bool true) ∧ Below w.heap.size w w' :=
  modelGrows_law va vb a b w ha hb (mz ea) (mpar_of hE) (ea 7) (hE.var 7 (by decide))
end Go.Proofs.YtpehdoepcpmnbaaDoor
