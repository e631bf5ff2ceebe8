/- A loop in a great frame: the slots that a round writes stand as U 7, U 8 .. for ONE function U, in the place of a letter a slot. -/
import Derived.Deep.LoopGhost
import Derived.Test.YtdgilgnaoifpcaaDoorBase
namespace Go.Proofs.YtdgilgnaoifpcaaDoor
open Go.RowKit

/-- The next mark of a row of segments. -/
def popSeg : List (Bool × Nat) → Bool × List (Bool × Nat)
  | [] => (false, [])
  | (_, 0) :: s => popSeg s
  | (b, n + 1) :: s => (b, (b, n) :: s)
/-- The frame l, in whose segments that are marked 'true' slot i holds U i. -/
def fillS (U : Nat → Value) : Nat → List (Bool × Nat) → List Value → List Value
  | _, _, [] => []
  | i, s, v :: l => (bif (popSeg s).1 then U i else v) :: fillS U (i + 1) (popSeg s).2 l
theorem fillS_same (U : Nat → Value) : ∀ (l : List Value) (s : List (Bool × Nat)) (i : Nat), (∀ k v, l[k]? = some v → U (i + k) = v) → fillS U i s l = l
  | [], _, _, _ => rfl
  | v :: l, s, i, h => by
    rw [fillS, fillS_same U l (popSeg s).2 (i + 1) (fun k v hk => by rw [Nat.add_assoc, Nat.add_comm 1 k]; exact h (k + 1) v (by simpa using hk))]
    have h0 : U i = v := h 0 v (by simp)
    cases (popSeg s).1
    · rfl
    · simp [h0]
theorem fillS_here (seg : List (Bool × Nat)) (l : List Value) : fillS (fun i => l.getD i undef) 0 seg l = l :=
  fillS_same _ l seg 0 fun k v hk => by
    rw [Nat.zero_add, List.getD_eq_getElem?_getD, hk]; rfl

section
variable {P : Program} {Q : Exit → Act → World → Prop} {w : World} {c : Code}
theorem wp_loopF (seg : List (Bool × Nat)) (l : List Value) (ds : _) (R : (Nat → Value) → World → Prop) (M : (Nat → Value) → World → Nat) (h0 : R (fun i => l.getD i undef) w)
    (hr : ∀ U wr, R U wr → ∀ K : Act → World → Prop, Hid (∀ l'' w'', fillS (fun i => l''.getD i undef) 0 seg l = l'' → R (fun i => l''.getD i undef) w'' → M (fun i => l''.getD i undef) w'' < M U wr → K ⟨l''.toArray, ds⟩ w'') →
      ∀ l', fillS U 0 seg l = l' → c.wp P (Exit.then K Q) ⟨l'.toArray, ds⟩ wr) : (Code.loop c).wp P Q ⟨l.toArray, ds⟩ w := by
  refine wp_loop_ghost (fun n a w' => ∃ U, R U w' ∧ M U w' = n ∧ a = ⟨(fillS U 0 seg l).toArray, ds⟩) (M (fun i => l.getD i undef) w) ⟨_, h0, rfl, by rw [fillS_here]⟩ ?_
  rintro n a w' ⟨U, hR, rfl, rfl⟩
  refine hr U w' hR _ (Lib.hid ?_) _ rfl
  intro l'' w'' he h1 h2
  exact ⟨_, h2, _, h1, rfl, by rw [he]⟩
end

end Go.Proofs.YtdgilgnaoifpcaaDoor
