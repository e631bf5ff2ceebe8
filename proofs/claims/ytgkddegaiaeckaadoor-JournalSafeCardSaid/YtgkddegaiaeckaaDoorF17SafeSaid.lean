/- RowsG, LoopF. -/
import Derived.Test.YtgkddegaiaeckaaDoorF15SafeSaid
import Derived.Test.YtgkddegaiaeckaaDoorF16SafeSaid
import Derived.Deep.LoopGhost
import Derived.Test.YtgkddegaiaeckaaDoorBase
/- Rows of rows of bytes. -/
namespace Go.Proofs.YtgkddegaiaeckaaDoor
open Go.RowKit
def RB (w : World) (F : Nat → Prop) (bs : List UInt8) (cs : List Value) : Prop := ∃ a c, cs = [.slice a bs.length c] ∧ ArgB w a c bs ∧ ∀ b o s, a = some ⟨b, o, s⟩ → F b
theorem liesRB : LiesOk RB 1 := by
  refine ⟨?_, ?_, ?_⟩
  · rintro w w' D F x cs ⟨a, c, rfl, h1, h2⟩ hO hF
    exact ⟨a, c, rfl, hO.argB h1 (fun b o e => hF b (h2 b o none e)), h2⟩
  · rintro w F F' x cs ⟨a, c, rfl, h1, h2⟩ hF
    exact ⟨a, c, rfl, h1, fun b o s e => hF b (h2 b o s e)⟩
  · rintro w F x cs ⟨a, c, rfl, h1, h2⟩
    refine ⟨rfl, fun u hu => ?_⟩
    simp at hu
    subst hu
    rfl
theorem rb_own {base : Nat} {w : World} {v : Value} {bs : List UInt8} (h : OwnB base w v bs) : RB w (fun k => v.ownBlock = some k) bs [v] := by
  obtain ⟨a, c, rfl, h1, _⟩ := h.arg
  exact ⟨a, c, rfl, h1, fun b o s e => by subst e; rfl⟩
end Go.Proofs.YtgkddegaiaeckaaDoor
/- A loop in a great frame: the slots that a round writes stand as U 7, U 8 .. for ONE function U, in the place of a letter a slot. -/
namespace Go.Proofs.YtgkddegaiaeckaaDoor
open Go.RowKit

/-- The next mark of a row of segments. -/
def popSeg : List (Bool × Nat) → Bool × List (Bool × Nat)
  | [] => (false, [])
  | (_, 0) :: s => popSeg s
  | (b, n + 1) :: s => (b, (b, n) :: s)
/-- The frame l, in whose segments that are marked 'true' slot i holds U i. -/
def fillS (U : Nat → Value) : Nat → List (Bool × Nat) → List Value → List Value
  | _, _, [] => []
  | i, s, v :: l => (bif (popSeg s).1 then U i else v) :: fillS U (i + 1) (popSeg s).2 l
theorem fillS_same (U : Nat → Value) : ∀ (l : List Value) (s : List (Bool × Nat)) (i : Nat), (∀ k v, l[k]? = some v → U (i + k) = v) → fillS U i s l = l
  | [], _, _, _ => rfl
  | v :: l, s, i, h => by
    rw [fillS, fillS_same U l (popSeg s).2 (i + 1) (fun k v hk => by rw [Nat.add_assoc, Nat.add_comm 1 k]; exact h (k + 1) v (by simpa using hk))]
    have h0 : U i = v := h 0 v (by simp)
    cases (popSeg s).1
    · rfl
    · simp [h0]
theorem fillS_here (seg : List (Bool × Nat)) (l : List Value) : fillS (fun i => l.getD i undef) 0 seg l = l :=
  fillS_same _ l seg 0 fun k v hk => by
    rw [Nat.zero_add, List.getD_eq_getElem?_getD, hk]; rfl

section
variable {P : Program} {Q : Exit → Act → World → Prop} {w : World} {c : Code}
theorem wp_loopF (seg : List (Bool × Nat)) (l : List Value) (ds : _) (R : (Nat → Value) → World → Prop) (M : (Nat → Value) → World → Nat) (h0 : R (fun i => l.getD i undef) w)
    (hr : ∀ U wr, R U wr → ∀ K : Act → World → Prop, Hid (∀ l'' w'', fillS (fun i => l''.getD i undef) 0 seg l = l'' → R (fun i => l''.getD i undef) w'' → M (fun i => l''.getD i undef) w'' < M U wr → K ⟨l''.toArray, ds⟩ w'') →
      ∀ l', fillS U 0 seg l = l' → c.wp P (Exit.then K Q) ⟨l'.toArray, ds⟩ wr) : (Code.loop c).wp P Q ⟨l.toArray, ds⟩ w := by
  refine wp_loop_ghost (fun n a w' => ∃ U, R U w' ∧ M U w' = n ∧ a = ⟨(fillS U 0 seg l).toArray, ds⟩) (M (fun i => l.getD i undef) w) ⟨_, h0, rfl, by rw [fillS_here]⟩ ?_
  rintro n a w' ⟨U, hR, rfl, rfl⟩
  refine hr U w' hR _ (Lib.hid ?_) _ rfl
  intro l'' w'' he h1 h2
  exact ⟨_, h2, _, h1, rfl, by rw [he]⟩
end

end Go.Proofs.YtgkddegaiaeckaaDoor
