/- A struct of six ints that comes in by value. -/
import Derived.Test.YtdgilgnaoifpcaaDoorMem
import Derived.Lib.SmallJoins
namespace Go.Proofs.YtdgilgnaoifpcaaDoor
open Go.RowKit Go.ChangeShapes Go.WideShapes
section
variable {H : Type} {enc : TypeId × Value → H} {P : Program} {w : World} {base : Nat} {spare : Nat → Bool} {held : Bool}
theorem open_ints6 {r : Reach} {b0 : Nat} {t e : TypeId} {f0 f1 f2 f3 f4 f5 : Field} {v : Value} {d : DataW H} {p : List MemPlace} (hs : P.underlying t = some (.struct #[f0, f1, f2, f3, f4, f5]))
    (ht : f0.type = e ∧ f1.type = e ∧ f2.type = e ∧ f3.type = e ∧ f4.type = e ∧ f5.type = e) (ho : f0.offset = 0 ∧ f1.offset = 1 ∧ f2.offset = 2 ∧ f3.offset = 3 ∧ f4.offset = 4 ∧ f5.offset = 5)
    (he : P.underlying e = some (.int .i64)) (hce : P.cellsOf e = 1) (hC : P.cellsOf t = 6) (hv : Value.okWide P w r b0 t v) (h : DataW.Trod enc P w base spare held t v d p) :
    ∃ a0 a1 a2 a3 a4 a5 : Int, v = .agg #[.int .i64 a0, .int .i64 a1, .int .i64 a2, .int .i64 a3, .int .i64 a4, .int .i64 a5] ∧ (Lit.int .i64 a0).wf = true ∧ (Lit.int .i64 a1).wf = true ∧ (Lit.int .i64 a2).wf = true ∧ (Lit.int .i64 a3).wf = true ∧ (Lit.int .i64 a4).wf = true ∧ (Lit.int .i64 a5).wf = true := by
  obtain ⟨cs, rfl, hsz⟩ := okWide_struct hs hv
  obtain ⟨fuel, hf⟩ := h
  obtain ⟨xs, n, _, _, hl, hlen, hf⟩ := DataW.trod_struct hs hf
  obtain ⟨t0, t1, t2, t3, t4, t5⟩ := ht
  obtain ⟨o0, o1, o2, o3, o4, o5⟩ := ho
  have each : ∀ (i : Nat) (f : Field), (#[f0, f1, f2, f3, f4, f5] : Array Field)[i]? = some f → f.type = e → f.offset = i → ∃ z, cs[i]? = some (.int .i64 z) ∧ (Lit.int .i64 z).wf = true := by
    intro i f hi h1 h2
    have hq := hf i f hi
    have hi6 : i < xs.length := by rw [hlen]; exact (Array.getElem?_eq_some_iff.1 hi).1
    rw [h1, h2, hce, List.getElem?_eq_getElem hi6] at hq
    obtain ⟨z, hc, _, hw⟩ := DataW.trod_int he hq
    refine ⟨z, ?_, hw⟩
    have := congrArg (·[0]?) hc
    simpa [Value.cells, List.getElem?_take, List.getElem?_drop] using this
  obtain ⟨a0, c0, w0⟩ := each 0 f0 rfl t0 o0
  obtain ⟨a1, c1, w1⟩ := each 1 f1 rfl t1 o1
  obtain ⟨a2, c2, w2⟩ := each 2 f2 rfl t2 o2
  obtain ⟨a3, c3, w3⟩ := each 3 f3 rfl t3 o3
  obtain ⟨a4, c4, w4⟩ := each 4 f4 rfl t4 o4
  obtain ⟨a5, c5, w5⟩ := each 5 f5 rfl t5 o5
  refine ⟨a0, a1, a2, a3, a4, a5, ?_, w0, w1, w2, w3, w4, w5⟩
  congr 1
  apply Array.ext_getElem?
  intro i
  rcases (show i = 0 ∨ i = 1 ∨ i = 2 ∨ i = 3 ∨ i = 4 ∨ i = 5 ∨ 6 ≤ i from by omega) with rfl | rfl | rfl | rfl | rfl | rfl | hi
  · exact c0
  · exact c1
  · exact c2
  · exact c3
  · exact c4
  · exact c5
  · rw [Array.getElem?_eq_none (by omega), Array.getElem?_eq_none (by simpa using hi)]
end
end Go.Proofs.YtdgilgnaoifpcaaDoor
