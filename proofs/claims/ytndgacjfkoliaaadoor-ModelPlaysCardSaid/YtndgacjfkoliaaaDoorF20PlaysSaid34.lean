/- ConcatL, Rec3, RecG, RecBare, MidU, Open5B, OpenC. -/
import Derived.Test.YtndgacjfkoliaaaDoorOwnB
import Derived.Lib.AppendZeros
import Derived.Test.YtndgacjfkoliaaaDoorF4PlaysSaid34
import Derived.Test.YtndgacjfkoliaaaDoorBase
import Derived.Deep.MidRow
import Derived.Test.YtndgacjfkoliaaaDoorMem
import Derived.Lib.SmallJoins
import Derived.Deep.Slices
import Derived.Deep.Fields
import Derived.ChangeSame
/- slices.Concat of a row of rows of bytes. -/
namespace Go.Proofs.YtndgacjfkoliaaaDoor
open Go.RowKit

/-- Rows of bytes, side by side in a block. -/
def RowsAt (w : World) (b : Nat) (ps : List (List UInt8)) : Prop := ∀ k, k < ps.length → ∃ a c, w.cell? ⟨b, k, none⟩ = some (.slice a (ps.getD k []).length c) ∧ ArgB w a c (ps.getD k [])
theorem RowsAt.below {w w' : World} {b : Nat} {ps : List (List UInt8)} (h : RowsAt w b ps) (hb : Below w.heap.size w w') : RowsAt w' b ps := fun k hk => by
  obtain ⟨a, c, h1, h2⟩ := h k hk
  exact ⟨a, c, (hb.cell (World.block_lt_of_cell? w _ h1)).trans h1, h2.below hb⟩
def lenSum (ps : List (List UInt8)) (k : Nat) : Nat := ((ps.take k).flatten).length
theorem take_row {ps : List (List UInt8)} {k : Nat} (h : k < ps.length) : (ps.take (k + 1)).flatten = (ps.take k).flatten ++ ps.getD k [] := by
  rw [List.take_succ_eq_append_getElem h, List.flatten_append, List.getD_eq_getElem?_getD, List.getElem?_eq_getElem h]
  simp
theorem lenSum_succ {ps : List (List UInt8)} {k : Nat} (h : k < ps.length) : lenSum ps (k + 1) = lenSum ps k + (ps.getD k []).length := by
  unfold lenSum
  rw [take_row h, List.length_append]
theorem lenSum_le (ps : List (List UInt8)) (k : Nat) : lenSum ps k ≤ ps.flatten.length := by
  have h : (ps.take k).flatten.length + (ps.drop k).flatten.length = ps.flatten.length := by rw [← List.length_append, ← List.flatten_append, List.take_append_drop]
  unfold lenSum
  omega

end Go.Proofs.YtndgacjfkoliaaaDoor
/- record.Check and record.Bytes of the record that alive builds. -/
namespace Go.Proofs.YtndgacjfkoliaaaDoor
open Go.RowKit

/-- The record of kind k, way y, all else zero. -/
def recV (k y : Int) : Array Value := #[.int .i64 k, .int .i64 0, .int .i64 0, .string ⟨#[]⟩, .int .i64 0, .int .i64 0, .int .i64 0, .int .i64 0, .int .i64 0, .int .i64 0, .int .u8 0, .int .u8 0, .int .u8 0, .int .u8 0, .int .u8 0, .int .u8 0, .int .u8 0, .int .u8 0, .int .u8 0, .int .u8 0, .int .u8 0, .int .u8 0, .int .u8 0, .int .u8 0, .int .u8 0, .int .u8 0, .int .u8 0, .int .u8 0, .int .u8 0, .int .u8 0, .int .u8 0, .int .u8 0, .int .u8 0, .int .u8 0, .int .u8 0, .int .u8 0, .int .u8 0, .int .u8 0, .int .u8 0, .int .u8 0, .int .u8 0, .int .u8 0, .int .u8 0, .int .u8 0, .int .u8 0, .int .u8 0, .int .u8 0, .int .u8 0, .int .u8 0, .int .u8 0, .int .u8 0, .int .u8 0, .int .u8 0, .int .u8 0, .int .u8 0, .int .u8 0, .int .u8 0, .int .u8 0, .int .u8 0, .int .u8 0, .int .u8 0, .int .u8 0, .int .u8 0, .int .u8 0, .int .u8 0, .int .u8 0, .int .u8 0, .int .u8 0, .int .u8 0, .int .u8 0, .int .u8 0, .int .u8 0, .int .u8 0, .int .u8 0, .int .i64 0, .int .i64 0, .int .i64 y, .int .i64 0]
theorem recV_size (k y : Int) : (recV k y).size = 78 := rfl

theorem heapA9 (w : World) (o : Obj) (k : Nat) : (w.alloc o).heap[k]? = if k = w.heap.size then some o else w.heap[k]? := by
  show (w.heap.push o)[k]? = _
  rw [Array.getElem?_push]
theorem rec_at (k y : Int) : (∀ h, (recV k y)[0]'h = .int .i64 k) ∧ (∀ h, (recV k y)[1]'h = .int .i64 0) ∧ (∀ h, (recV k y)[2]'h = .int .i64 0) ∧ (∀ h, (recV k y)[3]'h = .string ⟨#[]⟩) ∧ (∀ h, (recV k y)[74]'h = .int .i64 0) ∧ (∀ h, (recV k y)[75]'h = .int .i64 0) ∧ (∀ h, (recV k y)[76]'h = .int .i64 y) ∧ (∀ h, (recV k y)[77]'h = .int .i64 0) :=
  ⟨fun _ => rfl, fun _ => rfl, fun _ => rfl, fun _ => rfl, fun _ => rfl, fun _ => rfl, fun _ => rfl, fun _ => rfl⟩

end Go.Proofs.YtndgacjfkoliaaaDoor
/- record.within, record.numbers for any record. -/
namespace Go.Proofs.YtndgacjfkoliaaaDoor
open Go.RowKit

/-- lo ≤ x ≤ hi. -/
def inB (x lo hi : Int) : Bool := decide (lo ≤ x) && decide (x ≤ hi)
/-- The numbers of a record of kind k (object o, id i, way y, index x, verdict v, tick t) are in their bounds. -/
def numsB (k o i y x v t : Int) : Bool :=
  inB o 0 1099511627776 && inB t 0 1099511627776 && (if k = 2 then inB y 1 2 && inB x 0 1048576 && inB i 0 1099511627776 else if k = 3 then inB v 1 3 && inB i 0 1099511627776 else true)

end Go.Proofs.YtndgacjfkoliaaaDoor
/- record.bare for records of any but the first kind. -/
namespace Go.Proofs.YtndgacjfkoliaaaDoor
open Go.RowKit

theorem all_set (R : Array Value) (i : Nat) (v : Value) (h : (R.all (·.oneCell')) = true) (hv : v.oneCell' = true) : ((R.setIfInBounds i v).all (·.oneCell')) = true := by
  rw [Array.all_eq_true'] at h ⊢
  intro x hx
  rcases Array.mem_or_eq_of_mem_setIfInBounds hx with hx | rfl
  · exact h x hx
  · exact hv
theorem all_set0 (R : Array Value) (i : Nat) (k : IntKind) (z : Int) (h : (R.all (·.oneCell')) = true) : ((R.setIfInBounds i (.int k z)).all (·.oneCell')) = true := all_set R i _ h rfl

end Go.Proofs.YtndgacjfkoliaaaDoor
/- A whole struct or array is stored into the middle of a block that is known: its cells behind it. Of whatever program. -/
namespace Go.Proofs.YtndgacjfkoliaaaDoor
open Go.RowKit

/-- The cells with vs from offset o on. -/
def patch (C : Array Value) (o : Nat) (vs : List Value) : Array Value := (C.toList.take o ++ (vs ++ C.toList.drop (o + vs.length))).toArray
theorem patch_cons (C : Array Value) (o : Nat) (v : Value) (r : List Value) (h : o < C.size) : patch (C.setIfInBounds o v) (o + 1) r = patch C o (v :: r) := by
  unfold patch
  congr 1
  rw [Array.toList_setIfInBounds, List.length_cons]
  have h' : o < C.toList.length := by simpa using h
  have e1 : (C.toList.set o v).take (o + 1) = C.toList.take o ++ [v] := by
    rw [List.take_set, List.take_succ_eq_append_getElem h', List.set_append]
    have : (C.toList.take o).length = o := by simp; omega
    simp [this]
  have e2 : (C.toList.set o v).drop (o + 1 + r.length) = C.toList.drop (o + (r.length + 1)) := by
    rw [List.drop_set_of_lt (by omega)]
    congr 1; omega
  rw [e1, e2]
  simp
theorem patch_size (C : Array Value) (o : Nat) (vs : List Value) (h : o + vs.length ≤ C.size) : (patch C o vs).size = C.size := by
  simp [patch]; omega
theorem patch_nil (C : Array Value) (o : Nat) : patch C o [] = C := by simp [patch]
theorem Upd.setCells {b : Nat} {t : TypeId} {fz : Nat × Nat} {w : World} : ∀ (vs : List Value) (o : Nat) (C : Array Value) (w' : World), Upd b (.cells C t fz) w w' → o + vs.length ≤ C.size → Upd b (.cells (patch C o vs) t fz) w (w'.setCells b o vs)
  | [], o, C, w', h, _ => by rw [patch_nil]; exact h
  | v :: r, o, C, w', h, hl => by
    rw [List.length_cons] at hl
    rw [World.setCells, ← patch_cons C o v r (by omega)]
    exact Upd.setCells r (o + 1) _ _ (h.setCell v) (by rw [Array.size_setIfInBounds]; omega)
theorem there_of_block {w : World} {b : Nat} {C : Array Value} {t : TypeId} (h : w.heap[b]? = some (.cells C t (0, 0))) (o n : Nat) (hn : o + n ≤ C.size) : w.there b o n := fun j hj => by
  refine ⟨?_, free_of_block h _⟩
  rw [cell_of_block h, Array.getElem?_eq_getElem (by omega)]
  rfl
section
variable {P : Program} {ops : Array Oper} {rest : List Oper} {o : Oper} {a : Act} {w : World} {Q : Exit → Act → World → Prop}
theorem wpList_store_midU (hgd : o.guard = none) (ty T : TypeId) (x y : Operand) (ho : o.op = .store ty x y) (g off : Nat) (C c' : Array Value)
    (hx : a.eval x = .pointer (some ⟨g, off, none⟩)) (hy : a.eval y = .agg c') (hg : Hid (w.heap[g]? = some (.cells C T (0, 0)))) (hi : (P.info? ty).map (·.size) = some c'.size) (hs : off + c'.size ≤ C.size) (h1 : c'.all (·.oneCell') = true)
    (h : ∀ w', Hid (Upd g (.cells (patch C off c'.toList) T (0, 0)) w w') → wpList P ops Q rest (a.put o.dst undef) w') : wpList P ops Q (o :: rest) a w :=
  wpList_store_mid hgd ty x y ho g off c' hx hy (there_of_block hg.out off c'.size hs) hi h1 (h _ (Lib.hid (Upd.setCells c'.toList off C w (Upd.refl hg.out) (by simpa using hs))))
theorem wp_store_midU {K : Act → World → Prop} (ty T : TypeId) (x y : Operand) (ho : o.op = .store ty x y) (g off : Nat) (C c' : Array Value)
    (hx : a.eval x = .pointer (some ⟨g, off, none⟩)) (hy : a.eval y = .agg c') (hg : Hid (w.heap[g]? = some (.cells C T (0, 0)))) (hi : (P.info? ty).map (·.size) = some c'.size) (hs : off + c'.size ≤ C.size) (h1 : c'.all (·.oneCell') = true)
    (h : ∀ w', Hid (Upd g (.cells (patch C off c'.toList) T (0, 0)) w w') → K (a.put o.dst undef) w') : o.wp P a w K Q :=
  wp_store_mid ty x y ho g off c' hx hy (there_of_block hg.out off c'.size hs) hi h1 (h _ (Lib.hid (Upd.setCells c'.toList off C w (Upd.refl hg.out) (by simpa using hs))))
end
end Go.Proofs.YtndgacjfkoliaaaDoor
/- A struct of five rows of bytes that comes in by value. -/
namespace Go.Proofs.YtndgacjfkoliaaaDoor
open Go.RowKit Go.ChangeShapes Go.WideShapes
section
variable {H : Type} {enc : TypeId × Value → H} {P : Program} {w : World}
theorem argB_of_trod {t e : TypeId} {fuel : Nat} {l : List Value} {d : DataW H} {p : List MemPlace} (ht : P.underlying t = some (.slice e)) (he : P.underlying e = some (.int .u8)) (hc : P.cellsOf e = 1)
    (hf : DataW.trod enc P w 0 (fun _ => true) true fuel t l = some (d, p)) : ∃ a cap bs, l = [.slice a (List.length bs) cap] ∧ ArgB w a cap bs := by
  have hv : ∃ a len cap, l = [Value.slice a len cap] := by
    rcases open_ints ht he hc hf with ⟨hcs, _⟩ | ⟨x, len, c, zs, hcs, _⟩
    · exact ⟨none, 0, 0, hcs⟩
    · exact ⟨_, _, _, hcs⟩
  obtain ⟨a, len, cap, rfl⟩ := hv
  have hT : DataW.Trod enc P w 0 (fun _ => true) true t (.slice a len cap) d p := ⟨fuel, by simpa [Value.cells] using hf⟩
  obtain ⟨a', cap', bs, e, h⟩ := open_argB ht he hc ⟨_, _, _, rfl⟩ hT
  cases e
  exact ⟨_, _, bs, rfl, h⟩
theorem open_rows5 {r : Reach} {b0 : Nat} {t e q : TypeId} {f0 f1 f2 f3 f4 : Field} {v : Value} {d : DataW H} {p : List MemPlace} (hs : P.underlying t = some (.struct #[f0, f1, f2, f3, f4]))
    (ht : f0.type = e ∧ f1.type = e ∧ f2.type = e ∧ f3.type = e ∧ f4.type = e) (ho : f0.offset = 0 ∧ f1.offset = 1 ∧ f2.offset = 2 ∧ f3.offset = 3 ∧ f4.offset = 4)
    (he : P.underlying e = some (.slice q)) (hq : P.underlying q = some (.int .u8)) (hcq : P.cellsOf q = 1) (hce : P.cellsOf e = 1) (hC : P.cellsOf t = 5) (hv : Value.okWide P w r b0 t v) (h : DataW.Trod enc P w 0 (fun _ => true) true t v d p) :
    ∃ (vs : List Value) (f : Nat → List UInt8), v = .agg vs.toArray ∧ vs.length = 5 ∧ ∀ j, j < 5 → ∃ a c, vs[j]? = some (.slice a (f j).length c) ∧ ArgB w a c (f j) := by
  obtain ⟨cs, rfl, hsz⟩ := okWide_struct hs hv
  obtain ⟨fuel, hf⟩ := h
  obtain ⟨xs, n, _, _, hl, hlen, hf⟩ := DataW.trod_struct hs hf
  obtain ⟨t0, t1, t2, t3, t4⟩ := ht
  obtain ⟨o0, o1, o2, o3, o4⟩ := ho
  have each : ∀ (i : Nat) (f : Field), (#[f0, f1, f2, f3, f4] : Array Field)[i]? = some f → f.type = e → f.offset = i → ∃ a c bs, cs[i]? = some (.slice a (List.length bs) c) ∧ ArgB w a c bs := by
    intro i f hi h1 h2
    have hq2 := hf i f hi
    have hi6 : i < xs.length := by rw [hlen]; exact (Array.getElem?_eq_some_iff.1 hi).1
    rw [h1, h2, hce, List.getElem?_eq_getElem hi6] at hq2
    obtain ⟨a, c, bs, hc, ha⟩ := argB_of_trod he hq hcq hq2
    refine ⟨a, c, bs, ?_, ha⟩
    have := congrArg (·[0]?) hc
    simpa [Value.cells, List.getElem?_take, List.getElem?_drop] using this
  obtain ⟨a0, c0, b0', e0, h0⟩ := each 0 f0 rfl t0 o0
  obtain ⟨a1, c1, b1, e1, h1⟩ := each 1 f1 rfl t1 o1
  obtain ⟨a2, c2, b2, e2, h2⟩ := each 2 f2 rfl t2 o2
  obtain ⟨a3, c3, b3, e3, h3⟩ := each 3 f3 rfl t3 o3
  obtain ⟨a4, c4, b4, e4, h4⟩ := each 4 f4 rfl t4 o4
  refine ⟨cs.toList, fun j => [b0', b1, b2, b3, b4].getD j [], by rw [Array.toArray_toList], by rw [Array.length_toList, hsz, hC], fun j hj => ?_⟩
  match j, hj with
  | 0, _ => exact ⟨a0, c0, by rw [Array.getElem?_toList]; exact e0, h0⟩
  | 1, _ => exact ⟨a1, c1, by rw [Array.getElem?_toList]; exact e1, h1⟩
  | 2, _ => exact ⟨a2, c2, by rw [Array.getElem?_toList]; exact e2, h2⟩
  | 3, _ => exact ⟨a3, c3, by rw [Array.getElem?_toList]; exact e3, h3⟩
  | 4, _ => exact ⟨a4, c4, by rw [Array.getElem?_toList]; exact e4, h4⟩
end
end Go.Proofs.YtndgacjfkoliaaaDoor
/- What the fields of a struct that came in hold: numbers, rows of bytes. -/
namespace Go.Proofs.YtndgacjfkoliaaaDoor
open Go.RowKit Go.ChangeShapes Go.WideShapes Go.Deep
section
variable {H : Type} {enc : TypeId × Value → H} {P : Program} {w : World} {base : Nat} {spare : Nat → Bool} {held : Bool}
theorem cTrod_field {t : TypeId} {fs : Array Field} {fuel : Nat} {cs : List Value} {x : DataW H × List MemPlace} (hs : P.underlying t = some (.struct fs)) (h : DataW.trod enc P w base spare held fuel t cs = some x) (j : Nat) (f : Field) (hj : fs[j]? = some f) : ∃ n y, DataW.trod enc P w base spare held n f.type ((cs.drop f.offset).take (P.cellsOf f.type)) = some y := by
  obtain ⟨xs, n, _, _, hl, hlen, hf⟩ := DataW.trod_struct hs h
  have hq := hf j f hj
  have hi : j < xs.length := by rw [hlen]; exact (Array.getElem?_eq_some_iff.1 hj).1
  rw [List.getElem?_eq_getElem hi] at hq
  exact ⟨n, _, hq⟩
theorem cInt_cell {e : TypeId} {k : IntKind} {n o : Nat} {cs : List Value} {y : DataW H × List MemPlace} (he : P.underlying e = some (.int k)) (hce : P.cellsOf e = 1) (h : DataW.trod enc P w base spare held n e ((cs.drop o).take (P.cellsOf e)) = some y) : ∃ z, cs[o]? = some (.int k z) ∧ (Lit.int k z).wf = true := by
  rw [hce] at h
  obtain ⟨z, hc, _, hw⟩ := DataW.trod_int he h
  refine ⟨z, ?_, hw⟩
  have := congrArg (·[0]?) hc
  simpa [Value.cells, List.getElem?_take, List.getElem?_drop] using this
theorem cSub_cell {cs : List Value} {o s j : Nat} {u : Value} (h : ((cs.drop o).take s)[j]? = some u) : cs[o + j]? = some u := by
  rw [List.getElem?_take] at h
  split at h
  · rwa [List.getElem?_drop] at h
  · cases h
theorem cWf64 {z : Int} (h : (Lit.int .i64 z).wf = true) : -9223372036854775808 ≤ z ∧ z ≤ 9223372036854775807 := by simpa [Lit.wf, IntKind.min, IntKind.max, IntKind.signed, IntKind.bits] using h
theorem cWfU64 {z : Int} (h : (Lit.int .u64 z).wf = true) : z = (z.toNat : Int) ∧ z.toNat < 18446744073709551616 := by
  have hx : 0 ≤ z ∧ z ≤ 18446744073709551615 := by simpa [Lit.wf, IntKind.min, IntKind.max, IntKind.signed, IntKind.bits] using h
  omega
/-- A row of bytes in a struct. -/
theorem cRow_cell {sl u8 : TypeId} {n o : Nat} {cs : List Value} {y : DataW H × List MemPlace} (hs : P.underlying sl = some (.slice u8)) (h8 : P.underlying u8 = some (.int .u8)) (hc8 : P.cellsOf u8 = 1) (hce : P.cellsOf sl = 1) (h : DataW.trod enc P w 0 (fun _ => true) true n sl ((cs.drop o).take (P.cellsOf sl)) = some y) :
    ∃ a c bs, cs[o]? = some (.slice a (List.length bs) c) ∧ ArgB w a c bs := by
  rw [hce] at h
  obtain ⟨a, c, bs, e, ha⟩ := argB_of_trod (d := y.1) (p := y.2) hs h8 hc8 h
  refine ⟨a, c, bs, ?_, ha⟩
  have := congrArg (·[0]?) e
  simpa [List.getElem?_take, List.getElem?_drop] using this
end
end Go.Proofs.YtndgacjfkoliaaaDoor
