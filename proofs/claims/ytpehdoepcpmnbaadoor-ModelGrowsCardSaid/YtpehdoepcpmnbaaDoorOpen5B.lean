/- A struct of five rows of bytes that comes in by value. -/
import Derived.Test.YtpehdoepcpmnbaaDoorMem
import Derived.Lib.SmallJoins
namespace Go.Proofs.YtpehdoepcpmnbaaDoor
open Go.RowKit Go.ChangeShapes Go.WideShapes
section
variable {H : Type} {enc : TypeId × Value → H} {P : Program} {w : World}
theorem argB_of_trod {t e : TypeId} {fuel : Nat} {l : List Value} {d : DataW H} {p : List MemPlace} (ht : P.underlying t = some (.slice e)) (he : P.underlying e = some (.int .u8)) (hc : P.cellsOf e = 1)
    (hf : DataW.trod enc P w 0 (fun _ => true) true fuel t l = some (d, p)) : ∃ a cap bs, l = [.slice a (List.length bs) cap] ∧ ArgB w a cap bs := by
  have hv : ∃ a len cap, l = [Value.slice a len cap] := by
    rcases open_ints ht he hc hf with ⟨hcs, _⟩ | ⟨x, len, c, zs, hcs, _⟩
    · exact ⟨none, 0, 0, hcs⟩
    · exact ⟨_, _, _, hcs⟩
  obtain ⟨a, len, cap, rfl⟩ := hv
  have hT : DataW.Trod enc P w 0 (fun _ => true) true t (.slice a len cap) d p := ⟨fuel, by simpa [Value.cells] using hf⟩
  obtain ⟨a', cap', bs, e, h⟩ := open_argB ht he hc ⟨_, _, _, rfl⟩ hT
  cases e
  exact ⟨_, _, bs, rfl, h⟩
theorem open_rows5 {r : Reach} {b0 : Nat} {t e q : TypeId} {f0 f1 f2 f3 f4 : Field} {v : Value} {d : DataW H} {p : List MemPlace} (hs : P.underlying t = some (.struct #[f0, f1, f2, f3, f4]))
    (ht : f0.type = e ∧ f1.type = e ∧ f2.type = e ∧ f3.type = e ∧ f4.type = e) (ho : f0.offset = 0 ∧ f1.offset = 1 ∧ f2.offset = 2 ∧ f3.offset = 3 ∧ f4.offset = 4)
    (he : P.underlying e = some (.slice q)) (hq : P.underlying q = some (.int .u8)) (hcq : P.cellsOf q = 1) (hce : P.cellsOf e = 1) (hC : P.cellsOf t = 5) (hv : Value.okWide P w r b0 t v) (h : DataW.Trod enc P w 0 (fun _ => true) true t v d p) :
    ∃ (vs : List Value) (f : Nat → List UInt8), v = .agg vs.toArray ∧ vs.length = 5 ∧ ∀ j, j < 5 → ∃ a c, vs[j]? = some (.slice a (f j).length c) ∧ ArgB w a c (f j) := by
  obtain ⟨cs, rfl, hsz⟩ := okWide_struct hs hv
  obtain ⟨fuel, hf⟩ := h
  obtain ⟨xs, n, _, _, hl, hlen, hf⟩ := DataW.trod_struct hs hf
  obtain ⟨t0, t1, t2, t3, t4⟩ := ht
  obtain ⟨o0, o1, o2, o3, o4⟩ := ho
  have each : ∀ (i : Nat) (f : Field), (#[f0, f1, f2, f3, f4] : Array Field)[i]? = some f → f.type = e → f.offset = i → ∃ a c bs, cs[i]? = some (.slice a (List.length bs) c) ∧ ArgB w a c bs := by
    intro i f hi h1 h2
    have hq2 := hf i f hi
    have hi6 : i < xs.length := by rw [hlen]; exact (Array.getElem?_eq_some_iff.1 hi).1
    rw [h1, h2, hce, List.getElem?_eq_getElem hi6] at hq2
    obtain ⟨a, c, bs, hc, ha⟩ := argB_of_trod he hq hcq hq2
    refine ⟨a, c, bs, ?_, ha⟩
    have := congrArg (·[0]?) hc
    simpa [Value.cells, List.getElem?_take, List.getElem?_drop] using this
  obtain ⟨a0, c0, b0', e0, h0⟩ := each 0 f0 rfl t0 o0
  obtain ⟨a1, c1, b1, e1, h1⟩ := each 1 f1 rfl t1 o1
  obtain ⟨a2, c2, b2, e2, h2⟩ := each 2 f2 rfl t2 o2
  obtain ⟨a3, c3, b3, e3, h3⟩ := each 3 f3 rfl t3 o3
  obtain ⟨a4, c4, b4, e4, h4⟩ := each 4 f4 rfl t4 o4
  refine ⟨cs.toList, fun j => [b0', b1, b2, b3, b4].getD j [], by rw [Array.toArray_toList], by rw [Array.length_toList, hsz, hC], fun j hj => ?_⟩
  match j, hj with
  | 0, _ => exact ⟨a0, c0, by rw [Array.getElem?_toList]; exact e0, h0⟩
  | 1, _ => exact ⟨a1, c1, by rw [Array.getElem?_toList]; exact e1, h1⟩
  | 2, _ => exact ⟨a2, c2, by rw [Array.getElem?_toList]; exact e2, h2⟩
  | 3, _ => exact ⟨a3, c3, by rw [Array.getElem?_toList]; exact e3, h3⟩
  | 4, _ => exact ⟨a4, c4, by rw [Array.getElem?_toList]; exact e4, h4⟩
end
end Go.Proofs.YtpehdoepcpmnbaaDoor
