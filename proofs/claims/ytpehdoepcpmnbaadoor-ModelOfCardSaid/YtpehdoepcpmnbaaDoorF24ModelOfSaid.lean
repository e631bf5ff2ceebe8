/- As, Default. -/
import Derived.Test.YtpehdoepcpmnbaaDoorF23ModelOfSaid
import Derived.WalkKit
import Derived.LaidEql
import Derived.Stop.Asserts
import Derived.RowKitTokens
import Derived.Test.YtpehdoepcpmnbaaDoorF5ModelOfSaid
/- errors.As at a concrete target (after the kit's worked text ToyasAs, turned to this seat), params.Field. -/
namespace Go.Proofs.YtpehdoepcpmnbaaDoor
open Go.RowKit Go.Extern.Stop Go.Stop Go.Extern


/-! ### CLOSED FACTS ON THE MODEL's ENTRIES FOR internal/reflectlite, at this program's types: 25: *p.E · 27: **p.E · 23: error · 45: reflectlite's rtype · 1: how many package-level variables the dump has -/
theorem as_methodKind (h : Value) (w : World) : (Go.method 316 155 (.agg #[h]) "Kind").run Tryd.prog w = .ok (107, h) w := by kernel_rfl
theorem as_kind25 (w : World) : ((ReflectliteType.abiMethod fun t => (fun a : Nat => Value.int IntKind.u8 (a : Int)) <$> Rtype.kind t) #[.pointer (some ⟨23, 126, none⟩)]).run Tryd.prog w = .ok (.int .u8 22) w := by kernel_rfl

/-! ### THE ENTRIES THAT READ OR WRITE MEMORY: laws with a premise on the cell (after Derived/Lib/ReflectliteSlice.lean's manner: each unfolding a lemma of its own, by rfl) -/
theorem rlm (z : Sem Value) (f : TypeId → Addr → Nat → Nat → Sem Value) (v : Value) :
    ReflectliteValue.method z f #[v] = (do match ← ReflectliteValue.parts v with | none => z | some (t, a, fl) => f t a fl (fl % 32)) := rfl
theorem as_methodElem (h : Value) (w : World) : (Go.method 316 155 (.agg #[h]) "Elem").run Tryd.prog w = .ok (111, .agg #[h]) w := by kernel_rfl
theorem as_methodImplements (h : Value) (w : World) : (Go.method 316 155 (.agg #[h]) "Implements").run Tryd.prog w = .ok (112, .agg #[h]) w := by kernel_rfl
theorem as_methodAssignableTo (h : Value) (w : World) : (Go.method 316 155 (.agg #[h]) "AssignableTo").run Tryd.prog w = .ok (109, .agg #[h]) w := by kernel_rfl
theorem as_implements25 (w : World) : (ReflectliteType.relation "Implements" ReflectliteType.implements_ #[.agg #[.pointer (some ⟨23, 126, none⟩)], .iface 155 (.agg #[.pointer (some ⟨23, 61, none⟩)])]).run Tryd.prog w = .ok (.bool true) w := by kernel_rfl
theorem as_typeOf25 (v : Value) (w : World) : (ReflectliteType.typeOf #[.iface 126 v]).run Tryd.prog w = .ok (.iface 155 (.agg #[.pointer (some ⟨23, 126, none⟩)])) w := by kernel_rfl
theorem as_assignable25 (w : World) : (ReflectliteType.relation "AssignableTo" ReflectliteType.assignableTo #[.agg #[.pointer (some ⟨23, 126, none⟩)], .iface 155 (.agg #[.pointer (some ⟨23, 126, none⟩)])]).run Tryd.prog w = .ok (.bool true) w := by kernel_rfl
theorem as_valueOf25 (e : Addr) (w : World) : (ReflectliteValue.unpack (.iface 126 (.pointer (some e)))).run Tryd.prog w
    = .ok (.agg #[.pointer (some ⟨23, 126, none⟩), .pointer (some ⟨w.heap.size, 0, none⟩), .int .u64 150]) (w.alloc (.cells #[.pointer (some e)] 126)) := by kernel_rfl

theorem as_mk25 (p : Addr) (w : World) : (ReflectliteValue.mk 126 p ReflectliteValue.flagAddr).run Tryd.prog w = .ok (.agg #[.pointer (some ⟨23, 126, none⟩), .pointer (some p), .int .u64 406]) w := by kernel_rfl
theorem rls (v x : Value) : ReflectliteValue.set #[v, x] = (do
    let (some (dst, a, fl), some (src, b, _)) := (← ReflectliteValue.parts v, ← ReflectliteValue.parts x)
      | unsupported (.noEntry "extern/(internal/reflectlite.Value).Set.zeroValue")
    if fl / ReflectliteValue.flagAddr % 2 == 0 then unsupported (.noEntry "extern/(internal/reflectlite.Value).Set.unaddressable")
    let val ← loadVar src b
    if ← Rtype.directlyAssignable dst src then storeVar dst a val
    else if ← Rtype.implements dst src then
      if (← Rtype.kind src) == 20 then
        match val with
        | .nilIface => unsupported (.noEntry "extern/reflectlite: a nil value of one interface type handed on as a value of another")
        | _ => storeVar dst a val
      else storeVar dst a (.iface src val)
    else panicString ("reflectlite.Set: value of type " ++ (← Rtype.spelt src) ++ " is not assignable to type " ++ (← Rtype.spelt dst))
    pure (.tuple #[])) := rfl
theorem as_parts25a (a : Addr) (w : World) : (ReflectliteValue.parts (.agg #[.pointer (some ⟨23, 126, none⟩), .pointer (some a), .int .u64 406])).run Tryd.prog w = .ok (some (126, a, 406)) w := by kernel_rfl
theorem as_parts25 (a : Addr) (w : World) : (ReflectliteValue.parts (.agg #[.pointer (some ⟨23, 126, none⟩), .pointer (some a), .int .u64 150])).run Tryd.prog w = .ok (some (126, a, 150)) w := by kernel_rfl
theorem as_direct25 (w : World) : (Rtype.directlyAssignable 126 126).run Tryd.prog w = .ok true w := by kernel_rfl
theorem as_size25 (w : World) : (sizeOf 126).run Tryd.prog w = .ok 1 w := by kernel_rfl
/-- (Value).Set: the *p.E variable at 'ta' gets what the Value's own variable 'b' holds. -/
theorem as_set25 (ta b e : Addr) (old : Value) (W : World) (hb : W.cell? b = some (.pointer (some e))) (ht : W.cell? ta = some old) (hf : W.frozen? ta = false) :
    (ReflectliteValue.set #[.agg #[.pointer (some ⟨23, 126, none⟩), .pointer (some ta), .int .u64 406], .agg #[.pointer (some ⟨23, 126, none⟩), .pointer (some b), .int .u64 150]]).run Tryd.prog W
      = .ok (.tuple #[]) (W.setCell ta (.pointer (some e))) := by
  rw [rls]
  simp only [Sem.run_bind, as_parts25a, as_parts25, Result.andThen]
  simp [ReflectliteValue.flagAddr, loadVar, isAgg, underlying, Tryd.underlying126, hb, Result.andThen, as_direct25, storeVar, Value.cells, storeCells, Addr.add]
  rw [run_store Tryd.prog W ta _ _ (by rfl)]
  simp [ht, hf]

end Go.Proofs.YtpehdoepcpmnbaaDoor
/- Walks over params.Field, Plain, Stored, Default; baileelaw15.alive, ParamsDefault. -/
namespace Go.Proofs.YtpehdoepcpmnbaaDoor
open Go.RowKit


theorem below_set_new {w W : World} {g : Nat} {v : Value} (h : Below w.heap.size w W) (hg : w.heap.size ≤ g) : Below w.heap.size w (W.setCell ⟨g, 0, none⟩ v) := h.setCell (p := ⟨g, 0, none⟩) hg v

theorem check_lit (s n k d t r : Int) (h : ParOk s n k d t r) (z : Nat → Addr) (w : World) (hE : ParErrs w z) :
    Calls Tryd.prog 38 #[.agg #[.int .i64 s, .int .i64 n, .int .i64 k, .int .i64 d, .int .i64 t, .int .i64 r]] w fun e w' => e = .returned .nilIface ∧ Below w.heap.size w w' := check_ok s n k d t r h z w hE

theorem bad_spots (z : Nat → Addr) (w : World) (hE : ParErrs w z) : Calls Tryd.prog 38 #[.agg #[.int .i64 100, .int .i64 4, .int .i64 0, .int .i64 20, .int .i64 4, .int .i64 2]] w fun e w' => ∃ g, e = .returned (.iface 126 (.pointer (some ⟨g, 0, none⟩))) ∧ w'.heap[g]? = some (.cells #[.string ⟨#[115, 112, 111, 116, 115]⟩, .int .i64 0, .iface 177 (.pointer (some (z 0)))] 128 (0, 0)) ∧ Below w.heap.size w w' := by
  refine (check_bad2 100 4 0 20 4 2 (by omega) (by omega) (by omega) z w hE).mono ?_
  rintro e w' ⟨v, rfl, ⟨g, rfl, _, hg⟩, hb⟩
  exact ⟨g, rfl, hg, hb⟩

theorem bad_size (n : Int) (h : n < 0 ∨ 2000 < n) (z : Nat → Addr) (w : World) (hE : ParErrs w z) : Calls Tryd.prog 38 #[.agg #[.int .i64 n, .int .i64 4, .int .i64 4, .int .i64 20, .int .i64 4, .int .i64 2]] w fun e w' => ∃ g, e = .returned (.iface 126 (.pointer (some ⟨g, 0, none⟩))) ∧ Below w.heap.size w w' := by
  refine (check_bad0 n 4 4 20 4 2 h z w hE (by omega)).mono ?_
  rintro e w' ⟨v, rfl, ⟨g, rfl, _, hg⟩, hb⟩
  exact ⟨g, rfl, hb⟩

end Go.Proofs.YtpehdoepcpmnbaaDoor
