/- errors.As and params.Field where there is no *params.Wrong, and where it wraps whatever. -/
import Derived.Test.YtebfjpagecakjaaDoorDefault
import Derived.Test.YtebfjpagecakjaaDoorWrap2
namespace Go.Proofs.YtebfjpagecakjaaDoor
open Go Go.RowKit Go.Extern

theorem noAsE (v : Value) (xT : TypeId) (w : World) : (Instr.typeAssert (.iface 123 v) xT 104 true).run Tryd.prog w = .ok (.tuple #[.nilIface, .bool false]) w := run_typeAssert_lacksB Tryd.underlying104 (by kernel_rfl) (by kernel_rfl) v xT w
theorem as_typeOfE (v : Value) (w : World) : (ReflectliteType.typeOf #[.iface 123 v]).run Tryd.prog w = .ok (.iface 94 (.agg #[.pointer (some ⟨24, 123, none⟩)])) w := by kernel_rfl
theorem as_assignableE (w : World) : (ReflectliteType.relation "AssignableTo" ReflectliteType.assignableTo #[.agg #[.pointer (some ⟨24, 123, none⟩)], .iface 94 (.agg #[.pointer (some ⟨24, 56, none⟩)])]).run Tryd.prog w = .ok (.bool false) w := by kernel_rfl

set_option maxHeartbeats 4000000 in
theorem as_miss (z t : Addr) (old : Value) (w : World) (hg : w.cell? ⟨20, 0, none⟩ = some (.iface 94 (.agg #[.pointer (some ⟨24, 27, none⟩)]))) (ht0 : w.cell? t = some old) :
    Calls Tryd.prog 34 #[.iface 123 (.pointer (some z)), .iface 73 (.pointer (some t))] w fun ev w' => ev = .returned (.bool false) ∧ Below w.heap.size w w' := by
  have h6 := @run_callFunc_extern Tryd.prog 40 _ (fun args => ReflectliteValue.unpack (args.getD 0 (.tuple #[]))) Tryd.func40 (by kernel_rfl) (by kernel_rfl) (by kernel_rfl) (by kernel_rfl)
  have h7 := @run_callFunc_extern Tryd.prog 41 _ (ReflectliteValue.methodAny (ReflectliteValue.valueError "reflectlite.Value.Type" 0) (fun t _ _ _ => ReflectliteType.toType t)) Tryd.func41 (by kernel_rfl) (by kernel_rfl) (by kernel_rfl) (by kernel_rfl)
  have h8 := @run_callFunc_extern Tryd.prog 42 _ (ReflectliteValue.method (ReflectliteValue.valueError "reflectlite.Value.IsNil" 0) ReflectliteValue.isNil) Tryd.func42 (by kernel_rfl) (by kernel_rfl) (by kernel_rfl) (by kernel_rfl)
  have h27 := @run_callFunc_extern Tryd.prog 73 _ (ReflectliteType.abiMethod fun t => do pure (.int .u8 (← Rtype.kind t))) Tryd.func73 (by kernel_rfl) (by kernel_rfl) (by kernel_rfl) (by kernel_rfl)
  have h37 := @run_callFunc_extern Tryd.prog 82 _ (ReflectliteType.method ReflectliteType.elem) Tryd.func82 (by kernel_rfl) (by kernel_rfl) (by kernel_rfl) (by kernel_rfl)
  have h38 := @run_callFunc_extern Tryd.prog 83 _ (ReflectliteType.relation "Implements" ReflectliteType.implements_) Tryd.func83 (by kernel_rfl) (by kernel_rfl) (by kernel_rfl) (by kernel_rfl)
  have h10 := @run_callFunc_extern Tryd.prog 38 _ ReflectliteType.typeOf Tryd.func38 (by kernel_rfl) (by kernel_rfl) (by kernel_rfl) (by kernel_rfl)
  have h35 := @run_callFunc_extern Tryd.prog 80 _ (ReflectliteType.relation "AssignableTo" ReflectliteType.assignableTo) Tryd.func80 (by kernel_rfl) (by kernel_rfl) (by kernel_rfl) (by kernel_rfl)
  have h11 := @run_callFunc_extern Tryd.prog 45 _ (ReflectliteValue.method (ReflectliteValue.valueError "reflectlite.Value.Elem" 0) ReflectliteValue.elem) Tryd.func45 (by kernel_rfl) (by kernel_rfl) (by kernel_rfl) (by kernel_rfl)
  have h12 := @run_callFunc_extern Tryd.prog 46 _ ReflectliteValue.set Tryd.func46 (by kernel_rfl) (by kernel_rfl) (by kernel_rfl) (by kernel_rfl)
  have tO := as_typeOfE
  have mA := as_methodAssignableTo
  have a25 := as_assignableE
  have nA := noAsE
  have uE := Tryd.noUnwrapE
  have vE := Tryd.noUnwrapsE
  have f6 := as_valueOf27
  have f7 := as_type27
  have mK := as_methodKind
  have mE := as_methodElem
  have mI := as_methodImplements
  have k27 := as_kind27
  have k25 := as_kind25
  have e27 := as_elem27
  have i25 := as_implements25
  have n8 := as_isNil27 ⟨w.heap.size, 0, none⟩ t ((w.alloc (.cells #[.pointer (some t)] 73)).alloc (.cells #[.pointer (some ⟨24, 73, none⟩), .pointer (some ⟨w.heap.size, 0, none⟩), .int .u64 150] 86)) (by simp)
  have hlt : 20 < w.heap.size := World.block_lt_of_cell? w _ hg
  have hg2 : ((w.alloc (.cells #[.pointer (some t)] 73)).alloc (.cells #[.pointer (some ⟨24, 73, none⟩), .pointer (some ⟨w.heap.size, 0, none⟩), .int .u64 150] 86)).cell? ⟨20, 0, none⟩ = some (.iface 94 (.agg #[.pointer (some ⟨24, 27, none⟩)])) := by
    rw [World.cell?_alloc_lt _ _ ⟨20, 0, none⟩ (by simp; omega), World.cell?_alloc_lt _ _ ⟨20, 0, none⟩ hlt]; exact hg
  have htl : t.block < w.heap.size := by
    rcases Nat.lt_or_ge t.block w.heap.size with h | h
    · exact h
    · simp [World.cell?, Array.getElem?_eq_none h] at ht0
  go_enter Tryd.func34, Tryd.ntmps34
  go_wp2
  refine wp_loop_rounds 1 ?_
  rw [rounds_succ]
  go_wp2
  go_ret
  exact ⟨rfl, (((Below.refl _ _).alloc (Nat.le_refl _) _).alloc (by simp) _).alloc (by simp; omega) _⟩

set_option maxHeartbeats 2000000 in
theorem field_hitV (g : Nat) (F : ByteArray) (V : Int) (E : Value) (w : World) (hT : TypeVar w) (hg : w.heap[g]? = some (.cells #[.string F, .int .i64 V, E] 59 (0, 0))) :
    Calls Tryd.prog 18 #[.iface 56 (.pointer (some ⟨g, 0, none⟩))] w fun e w' => e = .returned (.tuple #[.string F, .int .i64 V, .bool true]) ∧ Below w.heap.size w w' := by
  have hlt := (Array.getElem?_eq_some_iff.1 hg).1
  have hb0 := (Below.refl w.heap.size w).alloc (Nat.le_refl _) (.cells #[.pointer none] 56)
  have hT1 := hT.below hb0
  have hcall := Lib.hid (as_hit ⟨g, 0, none⟩ ⟨w.heap.size, 0, none⟩ (.pointer none) (w.alloc (.cells #[.pointer none] 56)) hT1 (by simp) (by simp))
  replace hb0 := Lib.hid hb0
  replace hg := Lib.hid hg
  clear hT hT1
  go_enter Tryd.func18, Tryd.ntmps18
  go_wp2_with fail
  with_reducible refine hcall.out.mono ?_
  rintro e w2 ⟨rfl, hw2⟩
  have hB : Below w.heap.size w w2 := by
    rw [hw2]
    refine below_set_new ((((hb0.out.alloc ?_ _).alloc ?_ _).alloc ?_ _).alloc ?_ _) (Nat.le_refl _)
    all_goals (simp; try omega)
  have c0 : w2.cell? ⟨w.heap.size, 0, none⟩ = some (.pointer (some ⟨g, 0, none⟩)) := by
    rw [hw2]
    have hX := ((((((Below.refl (w.alloc (.cells #[.pointer none] 56)).heap.size (w.alloc (.cells #[.pointer none] 56))).alloc (Nat.le_refl _) (.cells #[.pointer (some ⟨w.heap.size, 0, none⟩)] 73)).alloc (by simp) (.cells #[.pointer (some ⟨24, 73, none⟩), .pointer (some ⟨(w.alloc (.cells #[.pointer none] 56)).heap.size, 0, none⟩), .int .u64 150] 86)).alloc (by simp) (.cells #[.pointer (some ⟨24, 73, none⟩), .pointer (some ⟨(w.alloc (.cells #[.pointer none] 56)).heap.size, 0, none⟩), .int .u64 150] 86)).alloc (by simp) (.cells #[.pointer (some ⟨g, 0, none⟩)] 56)).block w.heap.size (by simp)).trans (heap_alloc_new w (.cells #[.pointer none] 56))
    exact (cell_of_block ((Upd.refl hX).setCell (j := 0) (.pointer (some ⟨g, 0, none⟩))).here 0).trans (by simp)
  have hg2 := (hB.block g hlt).trans hg.out
  obtain ⟨⟨d0, d1, d2⟩, _⟩ := cells3 hg2
  clear hw2 hg2 hcall
  replace hB := Lib.hid hB
  go_wp2_with fail
  go_quiet (fail)
  go_wp2
  go_ret3
  exact ⟨rfl, below_drewN hB.out _⟩
end Go.Proofs.YtebfjpagecakjaaDoor
