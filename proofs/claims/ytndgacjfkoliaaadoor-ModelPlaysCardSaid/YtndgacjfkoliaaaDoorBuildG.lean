/- A struct is built of all its fields: its cells are the fields' cells, side by side. Of whatever program. -/
import Derived.Laws.Tables
import Derived.Great.BuildSlice
import Derived.Great.FillDense
import Derived.Test.YtndgacjfkoliaaaDoorMem
namespace Go.Proofs.YtndgacjfkoliaaaDoor
open Go.RowKit

/-- The parts' places, from offset o on. -/
def placed (fn : Nat → Option (Nat × Nat)) : Nat → Nat → List Value → Prop
  | _, _, [] => True
  | i, o, v :: vs => fn i = some (o, v.cells.size) ∧ placed fn (i + 1) (o + v.cells.size) vs
theorem fill_seq (fn : Nat → Option (Nat × Nat)) : ∀ (vs : List Value) (i : Nat) (pre rest : List Value), placed fn i pre.length vs → rest.length = (vs.map (·.cells.size)).sum →
    Instr.fill fn (pre ++ rest).toArray ((vs.zipIdx i).map fun x => (x.2, x.1)) = some (pre ++ vs.flatMap (·.cells.toList)).toArray
  | [], i, pre, rest, _, hr => by
    have : rest = [] := List.length_eq_zero_iff.1 (by simpa using hr)
    subst this
    simp [Instr.fill]
  | v :: vs, i, pre, rest, hp, hr => by
    obtain ⟨h1, h2⟩ := hp
    simp only [List.map_cons, List.sum_cons] at hr
    simp only [List.zipIdx_cons, List.map_cons]
    unfold Instr.fill
    simp only [h1]
    rw [if_neg (by simp; omega)]
    obtain ⟨g1, g2⟩ := Go.Great.foldl_set pre.length v.cells.toList 0 (pre ++ rest).toArray
    have hll : v.cells.toList.length = v.cells.size := Array.length_toList ..
    generalize hl : v.cells.toList = l at *
    have e : (l.zipIdx 0).foldl (fun cs (x : Value × Nat) => cs.setIfInBounds (pre.length + x.2) x.1) (pre ++ rest).toArray = ((pre ++ l) ++ rest.drop v.cells.size).toArray := by
      apply Array.ext_getElem?
      intro k
      rw [g2 k]
      simp only [Nat.add_zero, List.size_toArray, List.length_append, List.getElem?_toArray]
      by_cases hk : pre.length ≤ k ∧ k < pre.length + l.length ∧ k < pre.length + rest.length
      · rw [if_pos hk, List.append_assoc, List.getElem?_append_right hk.1, List.getElem?_append_left (by omega)]
      · rw [if_neg hk]
        by_cases hk1 : k < pre.length
        · rw [List.getElem?_append_left hk1, List.append_assoc, List.getElem?_append_left hk1]
        · rw [List.getElem?_append_right (by omega), List.getElem?_append_right (by rw [List.length_append]; omega), List.length_append, List.getElem?_drop]
          congr 1
          omega
    have hfold : Array.foldl (fun cs (x : Value × Nat) => cs.setIfInBounds (pre.length + x.2) x.1) (pre ++ rest).toArray v.cells.zipIdx = ((pre ++ l) ++ rest.drop v.cells.size).toArray := by
      rw [← e, ← Array.foldl_toList, Array.toList_zipIdx, hl]
    rw [hfold]
    have ih := fill_seq fn vs (i + 1) (pre ++ l) (rest.drop v.cells.size) (by rw [List.length_append, hll]; exact h2) (by rw [List.length_drop]; omega)
    rw [ih]
    simp [hl]
section
variable {P : Program}
theorem built_struct {t : TypeId} {fs : Array Field} {places : List (Nat × Nat)} {n : Nat} (hz : (P.info? t).map (fun i => i.zero.map (·.cells.size)) = some (some n)) (hu : P.underlying t = some (.struct fs)) (hp : fs.toList.mapM (fun f => (P.info? f.type).map fun i => (f.offset, i.size)) = some places)
    (vs : List Value) (hpl : placed (places.toArray[·]?) 0 0 vs) (hn : (vs.map (·.cells.size)).sum = n) : P.built t ((vs.zipIdx 0).map fun x => (x.2, x.1)) = some (vs.flatMap (·.cells.toList)).toArray := by
  obtain ⟨it, hit, h2⟩ := Option.map_eq_some_iff.1 hz
  obtain ⟨z, hz1, hz2⟩ := Option.map_eq_some_iff.1 h2
  unfold Program.built
  simp only [hit, hu, hz1, hp]
  have h := fill_seq (fun i => places.toArray[i]?) vs 0 [] z.cells.toList hpl (by rw [Array.length_toList, hz2, hn])
  simpa using h
/-- A slice of one struct. -/
theorem slice_one {t e : TypeId} {size bytes : Nat} (ht : P.underlying t = some (.slice e)) (hi : (P.info? e).map (fun i => (i.zero.map (·.cells.size), i.size, i.bytes)) = some (some size, size, bytes)) (hs : 0 < size) (hs2 : size ≤ 10000) (R : Array Value) (hR : R.size = size) (W : World) :
    (Instr.buildSlice t 1 #[(0, .agg R)]).run P W = .ok (.slice (some ⟨W.heap.size, 0, none⟩) 1 1) (W.alloc (.cells R e)) := by
  obtain ⟨ie, hie, h2⟩ := Option.map_eq_some_iff.1 hi
  simp only [Prod.mk.injEq] at h2
  obtain ⟨hz, hs1, hb⟩ := h2
  obtain ⟨z, hz1, hz2⟩ := Option.map_eq_some_iff.1 hz
  refine run_buildSlice W _ _ 1 _ R ie z ht hie hz1 (by rw [hs1]; omega) (by rw [hs1]; omega) ?_
  have h := Go.Great.fill_whole (s := size) hs [.agg R] ((Array.range (1 * ie.size)).map (z.cells[· % z.cells.size]!)) (by simp [Value.cells, hR]) (by simp [hs1])
  simpa [hs1, Value.cells] using h
variable {ops : Array Oper} {rest : List Oper} {K : Act → World → Prop} {Q : Exit → Act → World → Prop} {o : Oper} {a : Act} {w : World}
theorem wpK_buildV (t : TypeId) (ps : List (Nat × Operand)) (ho : o.op = .build t ps.toArray) (vs : List (Nat × Value)) (hv : (ps.map fun x => (x.1, a.eval x.2)) = vs) (R : Value) (h : (Instr.build t vs.toArray).run P w = .ok R w) (hK : K (a.put o.dst R) w) : o.wp P a w K Q := by
  unfold Oper.wp execOp
  simp only [ho, Sem.run_bind, Sem.run_pure, Result.andThen_ok, List.map_toArray, hv, h]
  exact hK
theorem wpList_buildV (hgd : o.guard = none) (t : TypeId) (ps : List (Nat × Operand)) (ho : o.op = .build t ps.toArray) (vs : List (Nat × Value)) (hv : (ps.map fun x => (x.1, a.eval x.2)) = vs) (R : Value) (h : (Instr.build t vs.toArray).run P w = .ok R w) (hK : wpList P ops Q rest (a.put o.dst R) w) : wpList P ops Q (o :: rest) a w := by
  refine wpList_plain hgd fun K' hK' => ?_
  exact wpK_buildV t ps ho vs hv R h (hK' _ _ hK)
theorem wpK_buildS (t : TypeId) (n : Nat) (ps : List (Nat × Operand)) (ho : o.op = .buildSlice t n ps.toArray) (vs : List (Nat × Value)) (hv : (ps.map fun x => (x.1, a.eval x.2)) = vs) (R : Value) (w' : World) (h : (Instr.buildSlice t n vs.toArray).run P w = .ok R w') (hK : K (a.put o.dst R) w') : o.wp P a w K Q := by
  unfold Oper.wp execOp
  simp only [ho, Sem.run_bind, Sem.run_pure, Result.andThen_ok, List.map_toArray, hv, h]
  exact hK
theorem wpList_buildS (hgd : o.guard = none) (t : TypeId) (n : Nat) (ps : List (Nat × Operand)) (ho : o.op = .buildSlice t n ps.toArray) (vs : List (Nat × Value)) (hv : (ps.map fun x => (x.1, a.eval x.2)) = vs) (R : Value) (w' : World) (h : (Instr.buildSlice t n vs.toArray).run P w = .ok R w') (hK : wpList P ops Q rest (a.put o.dst R) w') : wpList P ops Q (o :: rest) a w := by
  refine wpList_plain hgd fun K' hK' => ?_
  exact wpK_buildS t n ps ho vs hv R w' h (hK' _ _ hK)
end
end Go.Proofs.YtndgacjfkoliaaaDoor
