/- What the fields of a struct that came in hold: numbers, rows of bytes. -/
import Derived.Test.YtpehdoepcpmnbaaDoorOpen5B
import Derived.Deep.Slices
import Derived.Deep.Fields
import Derived.ChangeSame
namespace Go.Proofs.YtpehdoepcpmnbaaDoor
open Go.RowKit Go.ChangeShapes Go.WideShapes Go.Deep
section
variable {H : Type} {enc : TypeId × Value → H} {P : Program} {w : World} {base : Nat} {spare : Nat → Bool} {held : Bool}
theorem cTrod_field {t : TypeId} {fs : Array Field} {fuel : Nat} {cs : List Value} {x : DataW H × List MemPlace} (hs : P.underlying t = some (.struct fs)) (h : DataW.trod enc P w base spare held fuel t cs = some x) (j : Nat) (f : Field) (hj : fs[j]? = some f) : ∃ n y, DataW.trod enc P w base spare held n f.type ((cs.drop f.offset).take (P.cellsOf f.type)) = some y := by
  obtain ⟨xs, n, _, _, hl, hlen, hf⟩ := DataW.trod_struct hs h
  have hq := hf j f hj
  have hi : j < xs.length := by rw [hlen]; exact (Array.getElem?_eq_some_iff.1 hj).1
  rw [List.getElem?_eq_getElem hi] at hq
  exact ⟨n, _, hq⟩
theorem cInt_cell {e : TypeId} {k : IntKind} {n o : Nat} {cs : List Value} {y : DataW H × List MemPlace} (he : P.underlying e = some (.int k)) (hce : P.cellsOf e = 1) (h : DataW.trod enc P w base spare held n e ((cs.drop o).take (P.cellsOf e)) = some y) : ∃ z, cs[o]? = some (.int k z) ∧ (Lit.int k z).wf = true := by
  rw [hce] at h
  obtain ⟨z, hc, _, hw⟩ := DataW.trod_int he h
  refine ⟨z, ?_, hw⟩
  have := congrArg (·[0]?) hc
  simpa [Value.cells, List.getElem?_take, List.getElem?_drop] using this
theorem cSub_cell {cs : List Value} {o s j : Nat} {u : Value} (h : ((cs.drop o).take s)[j]? = some u) : cs[o + j]? = some u := by
  rw [List.getElem?_take] at h
  split at h
  · rwa [List.getElem?_drop] at h
  · cases h
theorem cWf64 {z : Int} (h : (Lit.int .i64 z).wf = true) : -9223372036854775808 ≤ z ∧ z ≤ 9223372036854775807 := by simpa [Lit.wf, IntKind.min, IntKind.max, IntKind.signed, IntKind.bits] using h
theorem cWfU64 {z : Int} (h : (Lit.int .u64 z).wf = true) : z = (z.toNat : Int) ∧ z.toNat < 18446744073709551616 := by
  have hx : 0 ≤ z ∧ z ≤ 18446744073709551615 := by simpa [Lit.wf, IntKind.min, IntKind.max, IntKind.signed, IntKind.bits] using h
  omega
/-- A row of bytes in a struct. -/
theorem cRow_cell {sl u8 : TypeId} {n o : Nat} {cs : List Value} {y : DataW H × List MemPlace} (hs : P.underlying sl = some (.slice u8)) (h8 : P.underlying u8 = some (.int .u8)) (hc8 : P.cellsOf u8 = 1) (hce : P.cellsOf sl = 1) (h : DataW.trod enc P w 0 (fun _ => true) true n sl ((cs.drop o).take (P.cellsOf sl)) = some y) :
    ∃ a c bs, cs[o]? = some (.slice a (List.length bs) c) ∧ ArgB w a c bs := by
  rw [hce] at h
  obtain ⟨a, c, bs, e, ha⟩ := argB_of_trod (d := y.1) (p := y.2) hs h8 hc8 h
  refine ⟨a, c, bs, ?_, ha⟩
  have := congrArg (·[0]?) e
  simpa [List.getElem?_take, List.getElem?_drop] using this
end
end Go.Proofs.YtpehdoepcpmnbaaDoor
