/- Rows of rows of bytes. -/
import Derived.Test.YtdgilgnaoifpcaaDoorOwnW
import Derived.Test.YtdgilgnaoifpcaaDoorRowsGG
namespace Go.Proofs.YtdgilgnaoifpcaaDoor
open Go.RowKit
def RB (w : World) (F : Nat → Prop) (bs : List UInt8) (cs : List Value) : Prop := ∃ a c, cs = [.slice a bs.length c] ∧ ArgB w a c bs ∧ ∀ b o s, a = some ⟨b, o, s⟩ → F b
theorem liesRB : LiesOk RB 1 := by
  refine ⟨?_, ?_, ?_⟩
  · rintro w w' D F x cs ⟨a, c, rfl, h1, h2⟩ hO hF
    exact ⟨a, c, rfl, hO.argB h1 (fun b o e => hF b (h2 b o none e)), h2⟩
  · rintro w F F' x cs ⟨a, c, rfl, h1, h2⟩ hF
    exact ⟨a, c, rfl, h1, fun b o s e => hF b (h2 b o s e)⟩
  · rintro w F x cs ⟨a, c, rfl, h1, h2⟩
    refine ⟨rfl, fun u hu => ?_⟩
    simp at hu
    subst hu
    rfl
theorem rb_own {base : Nat} {w : World} {v : Value} {bs : List UInt8} (h : OwnB base w v bs) : RB w (fun k => v.ownBlock = some k) bs [v] := by
  obtain ⟨a, c, rfl, h1, _⟩ := h.arg
  exact ⟨a, c, rfl, h1, fun b o s e => by subst e; rfl⟩
end Go.Proofs.YtdgilgnaoifpcaaDoor
