/- errors.Is, errors.As, baileenum.Num, journal.Where at a *journal.Fault (printed from the texts for ParamsWrong). -/
import Derived.Test.YtgkddegaiaeckaaDoorAlive19
import Derived.Test.YtgkddegaiaeckaaDoorNum
import Derived.WalkKit
import Derived.LaidEql
import Derived.Stop.Asserts
import Derived.RowKitTokens
/- errors.Is where a *journal.Fault wraps a sentinel (after the kit's worked text SentryIs, turned to this seat); baileenum.Num of such an error. -/
namespace Go.Proofs.YtgkddegaiaeckaaDoor
open Go.RowKit Go.Extern.Stop Go.Stop Go.Extern

/-- What errors.As asks of the world. -/
abbrev TypeVar (w : World) : Prop := w.cell? ⟨22, 0, none⟩ = some (.iface 124 (.agg #[.pointer (some ⟨28, 41, none⟩)]))
theorem TypeVar.below {w w' : World} (h : TypeVar w) (hb : Below w.heap.size w w') : TypeVar w' := (hb.cell (World.block_lt_of_cell? w _ h)).trans h

theorem below_set_new {w W : World} {g : Nat} {v : Value} (h : Below w.heap.size w W) (hg : w.heap.size ≤ g) : Below w.heap.size w (W.setCell ⟨g, 0, none⟩ v) := h.setCell (p := ⟨g, 0, none⟩) hg v

theorem Tryd.noIsW (v : Value) (xT : TypeId) (w : World) : (Instr.typeAssert (.iface 57 v) xT 135 true).run Tryd.prog w = .ok (.tuple #[.nilIface, .bool false]) w := run_typeAssert_lacksB Tryd.underlying135 (by kernel_rfl) (by kernel_rfl) v xT w
theorem Tryd.hasUnwrapW (v : Value) (xT : TypeId) (w : World) : (Instr.typeAssert (.iface 57 v) xT 131 true).run Tryd.prog w = .ok (.tuple #[.iface 57 v, .bool true]) w := run_typeAssert_hasB Tryd.underlying131 (by kernel_rfl) v xT w
theorem Tryd.methodUnwrap (v : Value) (w : World) : (Go.method 292 57 v "Unwrap").run Tryd.prog w = .ok (30, v) w := by kernel_rfl

/-- errors.Is(e, x), e a *fmt.wrapError that wraps x itself: one Unwrap, then equal. -/
theorem is_wrap_same (pb po : Nat) (b : Addr) (w : World) (h1 : w.cell? ⟨pb, po + 2, none⟩ = some (.iface 161 (.pointer (some b)))) :
    Calls Tryd.prog 47 #[.iface 57 (.pointer (some ⟨pb, po, none⟩)), .iface 161 (.pointer (some b))] w fun e w' => e = .returned (.bool true) ∧ w = w' := by
  obtain ⟨i, hi, hcmp⟩ := Option.map_eq_some_iff.1 Tryd.isComp
  obtain ⟨j, hj, hjs⟩ := Option.map_eq_some_iff.1 Tryd.isSize
  have h8 := @run_callFunc_extern Tryd.prog 61 _ Extern.ReflectliteType.typeOf Tryd.func61 (by kernel_rfl) (by kernel_rfl) (by kernel_rfl) (by kernel_rfl)
  have h32 := @run_callFunc_extern Tryd.prog 117 _ cmpExt Tryd.func117 (by kernel_rfl) (by kernel_rfl) (by kernel_rfl) (by kernel_rfl)
  have tT := Tryd.isTypeOf
  have cT := Tryd.isComparable
  have mR := Tryd.isMethodComparable
  have nE := Tryd.noIsE
  have uE := Tryd.noUnwrapE
  have vE := Tryd.noUnwrapsE
  have nW := Tryd.noIsW
  have uW := Tryd.hasUnwrapW
  have mU := Tryd.methodUnwrap
  have heq := run_eql_iface_ptr_same (P := Tryd.prog) w b Tryd.underlying41 Tryd.underlying161 hi hcmp hj
  have hty := run_eql_iface_types (P := Tryd.prog) 57 161 (.pointer (some ⟨pb, po, none⟩)) (.pointer (some b)) Tryd.underlying41 (by decide) w
  go_enter Tryd.func47, Tryd.ntmps47
  go_wp2
  refine wp_loop_rounds 2 ?_
  rw [rounds_succ]
  go_wp2
  rw [rounds_succ]
  go_wp2
  go_ret
  exact ⟨rfl, rfl⟩

/-- errors.Is(e, x), e a *fmt.wrapError that wraps another error of errors.New's make. -/
theorem is_wrap_other (pb po : Nat) (b a : Addr) (ca cb : Array Value) (ta tb : TypeId) (w : World) (h1 : w.cell? ⟨pb, po + 2, none⟩ = some (.iface 161 (.pointer (some a)))) (hne : a ≠ b) (ha : w.heap[a.block]? = some (.cells ca ta (0, 0))) (hb : w.heap[b.block]? = some (.cells cb tb (0, 0))) :
    Calls Tryd.prog 47 #[.iface 57 (.pointer (some ⟨pb, po, none⟩)), .iface 161 (.pointer (some b))] w fun e w' => e = .returned (.bool false) ∧ w = w' := by
  obtain ⟨i, hi, hcmp⟩ := Option.map_eq_some_iff.1 Tryd.isComp
  obtain ⟨j, hj, hjs⟩ := Option.map_eq_some_iff.1 Tryd.isSize
  have h8 := @run_callFunc_extern Tryd.prog 61 _ Extern.ReflectliteType.typeOf Tryd.func61 (by kernel_rfl) (by kernel_rfl) (by kernel_rfl) (by kernel_rfl)
  have h32 := @run_callFunc_extern Tryd.prog 117 _ cmpExt Tryd.func117 (by kernel_rfl) (by kernel_rfl) (by kernel_rfl) (by kernel_rfl)
  have tT := Tryd.isTypeOf
  have cT := Tryd.isComparable
  have mR := Tryd.isMethodComparable
  have nE := Tryd.noIsE
  have uE := Tryd.noUnwrapE
  have vE := Tryd.noUnwrapsE
  have nW := Tryd.noIsW
  have uW := Tryd.hasUnwrapW
  have mU := Tryd.methodUnwrap
  have heq := run_eql_iface_ptr_other (P := Tryd.prog) w Tryd.underlying41 Tryd.underlying161 hi hcmp hj (by rw [hjs]; decide) hne ha hb
  have hty := run_eql_iface_types (P := Tryd.prog) 57 161 (.pointer (some ⟨pb, po, none⟩)) (.pointer (some b)) Tryd.underlying41 (by decide) w
  go_enter Tryd.func47, Tryd.ntmps47
  go_wp2
  refine wp_loop_rounds 2 ?_
  rw [rounds_succ]
  go_wp2
  rw [rounds_succ]
  go_wp2
  go_ret
  exact ⟨rfl, rfl⟩


end Go.Proofs.YtgkddegaiaeckaaDoor
/- baileenum.Num of a *journal.Fault. -/
namespace Go.Proofs.YtgkddegaiaeckaaDoor
open Go.RowKit

set_option maxRecDepth 100000 in
set_option maxHeartbeats 1000000 in
theorem num_wrap (g : Nat) (F : ByteArray) (V : Int) (i : Nat) (hi : i < 20) (a : Nat → Addr) (w : World) (H : Errs 161 errGs w a) (hg : w.heap[g]? = some (.cells #[.string F, .int .i64 V, .iface 161 (.pointer (some (a i)))] 59 (0, 0))) :
    Calls Tryd.prog 29 #[.iface 57 (.pointer (some ⟨g, 0, none⟩))] w fun e w' => e = .returned (.int .i64 ((i + 1 : Nat) : Int)) ∧ Below w.heap.size w w' := by
  obtain ⟨g0, g1, g2, g3, g4, g5, g6, g7, g8, g9, g10, g11, g12, g13, g14, g15, g16, g17, g18, g19⟩ := num_cells H
  have H := Lib.hid H
  go_enter Tryd.func29, Tryd.ntmps29
  go_wp2_with fail
  obtain ⟨w1, hw1⟩ : ∃ w1, w1 = w.alloc (Obj.cells (errList a) 41) := ⟨_, rfl⟩
  have hcl : ∀ m, m < 20 → w1.cell? ⟨w.heap.size, m, none⟩ = some (.iface 161 (.pointer (some (a m)))) := by
    intro m hm
    rw [hw1, cell_of_block (heap_alloc_new w _)]
    exact errList_at a m hm
  have hb1 : Below w.heap.size w w1 := by rw [hw1]; exact (Below.refl _ _).alloc (Nat.le_refl _) _
  have H1 := Lib.hid (H.out.below hb1)
  have hw := Lib.hid (cell_of_block ((hb1.block g (block_lt hg)).trans hg) 2)
  clear hg
  have hcl := Lib.hid hcl
  unfold errList at hw1
  rw [← hw1]
  clear hw1 H
  clear g0 g1 g2 g3 g4 g5 g6 g7 g8 g9 g10 g11 g12 g13 g14 g15 g16 g17 g18 g19
  go_loop [31] (fun j => ∃ m : Nat, m ≤ i ∧ j = .int .i64 m) (fun j => i - (intOf j).toNat)
  case atStart => exact ⟨0, Nat.zero_le _, rfl⟩
  case round =>
    obtain ⟨m, hm, rfl⟩ := hrel
    have hc := hcl.out m (by omega)
    by_cases hlt : m < i
    · obtain ⟨c1, t1, o1⟩ := H1.out.obj i hi
      obtain ⟨c2, t2, o2⟩ := H1.out.obj m (by show m < 20; omega)
      have hne : a i ≠ a m := fun e => by have := H1.out.inj i m hi (by show m < 20; omega) e; omega
      have o1 := Lib.hid o1
      have o2 := Lib.hid o2
      have hne := Lib.hid hne
      go_wp2_with fail
      refine (is_wrap_other g 0 (a m) (a i) c1 c2 t1 t2 _ hw.out hne.out o1.out o2.out).mono ?_
      rintro e w2 ⟨rfl, rfl⟩
      go_wp2_with fail
      exact ⟨⟨m + 1, by omega, by go_num⟩, by simp [intOf]; omega⟩
    · obtain rfl : m = i := by omega
      go_wp2_with fail
      refine (is_wrap_same g 0 (a m) _ hw.out).mono ?_
      rintro e w2 ⟨rfl, rfl⟩
      go_wp2_with fail
      go_ret
      exact ⟨rfl, hb1⟩


end Go.Proofs.YtgkddegaiaeckaaDoor
/- errors.Is and baileenum.Num where a *journal.Fault wraps another. -/
namespace Go.Proofs.YtgkddegaiaeckaaDoor
open Go.RowKit

/-- errors.Is(e, x), e a *fmt.wrapError that wraps x itself: one Unwrap, then equal. -/
theorem is_wrap2_same (qb qo pb po : Nat) (b : Addr) (w : World) (h0 : w.cell? ⟨qb, qo + 2, none⟩ = some (.iface 57 (.pointer (some ⟨pb, po, none⟩)))) (h1 : w.cell? ⟨pb, po + 2, none⟩ = some (.iface 161 (.pointer (some b)))) :
    Calls Tryd.prog 47 #[.iface 57 (.pointer (some ⟨qb, qo, none⟩)), .iface 161 (.pointer (some b))] w fun e w' => e = .returned (.bool true) ∧ w = w' := by
  obtain ⟨i, hi, hcmp⟩ := Option.map_eq_some_iff.1 Tryd.isComp
  obtain ⟨j, hj, hjs⟩ := Option.map_eq_some_iff.1 Tryd.isSize
  have h8 := @run_callFunc_extern Tryd.prog 61 _ Extern.ReflectliteType.typeOf Tryd.func61 (by kernel_rfl) (by kernel_rfl) (by kernel_rfl) (by kernel_rfl)
  have h32 := @run_callFunc_extern Tryd.prog 117 _ cmpExt Tryd.func117 (by kernel_rfl) (by kernel_rfl) (by kernel_rfl) (by kernel_rfl)
  have tT := Tryd.isTypeOf
  have cT := Tryd.isComparable
  have mR := Tryd.isMethodComparable
  have nE := Tryd.noIsE
  have uE := Tryd.noUnwrapE
  have vE := Tryd.noUnwrapsE
  have nW := Tryd.noIsW
  have uW := Tryd.hasUnwrapW
  have mU := Tryd.methodUnwrap
  have heq := run_eql_iface_ptr_same (P := Tryd.prog) w b Tryd.underlying41 Tryd.underlying161 hi hcmp hj
  have hty := run_eql_iface_types (P := Tryd.prog) 57 161 (.pointer (some ⟨pb, po, none⟩)) (.pointer (some b)) Tryd.underlying41 (by decide) w
  have hty2 := run_eql_iface_types (P := Tryd.prog) 57 161 (.pointer (some ⟨qb, qo, none⟩)) (.pointer (some b)) Tryd.underlying41 (by decide) w
  go_enter Tryd.func47, Tryd.ntmps47
  go_wp2
  refine wp_loop_rounds 3 ?_
  rw [rounds_succ]
  go_wp2
  rw [rounds_succ]
  go_wp2
  rw [rounds_succ]
  go_wp2
  go_ret
  exact ⟨rfl, rfl⟩

/-- errors.Is(e, x), e a *fmt.wrapError that wraps another error of errors.New's make. -/
theorem is_wrap2_other (qb qo pb po : Nat) (b a : Addr) (ca cb : Array Value) (ta tb : TypeId) (w : World) (h0 : w.cell? ⟨qb, qo + 2, none⟩ = some (.iface 57 (.pointer (some ⟨pb, po, none⟩)))) (h1 : w.cell? ⟨pb, po + 2, none⟩ = some (.iface 161 (.pointer (some a)))) (hne : a ≠ b) (ha : w.heap[a.block]? = some (.cells ca ta (0, 0))) (hb : w.heap[b.block]? = some (.cells cb tb (0, 0))) :
    Calls Tryd.prog 47 #[.iface 57 (.pointer (some ⟨qb, qo, none⟩)), .iface 161 (.pointer (some b))] w fun e w' => e = .returned (.bool false) ∧ w = w' := by
  obtain ⟨i, hi, hcmp⟩ := Option.map_eq_some_iff.1 Tryd.isComp
  obtain ⟨j, hj, hjs⟩ := Option.map_eq_some_iff.1 Tryd.isSize
  have h8 := @run_callFunc_extern Tryd.prog 61 _ Extern.ReflectliteType.typeOf Tryd.func61 (by kernel_rfl) (by kernel_rfl) (by kernel_rfl) (by kernel_rfl)
  have h32 := @run_callFunc_extern Tryd.prog 117 _ cmpExt Tryd.func117 (by kernel_rfl) (by kernel_rfl) (by kernel_rfl) (by kernel_rfl)
  have tT := Tryd.isTypeOf
  have cT := Tryd.isComparable
  have mR := Tryd.isMethodComparable
  have nE := Tryd.noIsE
  have uE := Tryd.noUnwrapE
  have vE := Tryd.noUnwrapsE
  have nW := Tryd.noIsW
  have uW := Tryd.hasUnwrapW
  have mU := Tryd.methodUnwrap
  have heq := run_eql_iface_ptr_other (P := Tryd.prog) w Tryd.underlying41 Tryd.underlying161 hi hcmp hj (by rw [hjs]; decide) hne ha hb
  have hty := run_eql_iface_types (P := Tryd.prog) 57 161 (.pointer (some ⟨pb, po, none⟩)) (.pointer (some b)) Tryd.underlying41 (by decide) w
  have hty2 := run_eql_iface_types (P := Tryd.prog) 57 161 (.pointer (some ⟨qb, qo, none⟩)) (.pointer (some b)) Tryd.underlying41 (by decide) w
  go_enter Tryd.func47, Tryd.ntmps47
  go_wp2
  refine wp_loop_rounds 3 ?_
  rw [rounds_succ]
  go_wp2
  rw [rounds_succ]
  go_wp2
  rw [rounds_succ]
  go_wp2
  go_ret
  exact ⟨rfl, rfl⟩


set_option maxRecDepth 100000 in
set_option maxHeartbeats 1000000 in
theorem num_wrap2 (u : Nat) (F' : ByteArray) (V' : Int) (g : Nat) (F : ByteArray) (V : Int) (i : Nat) (hi : i < 20) (a : Nat → Addr) (w : World) (H : Errs 161 errGs w a) (hg : w.heap[g]? = some (.cells #[.string F, .int .i64 V, .iface 161 (.pointer (some (a i)))] 59 (0, 0))) (hu : w.heap[u]? = some (.cells #[.string F', .int .i64 V', .iface 57 (.pointer (some ⟨g, 0, none⟩))] 59 (0, 0))) :
    Calls Tryd.prog 29 #[.iface 57 (.pointer (some ⟨u, 0, none⟩))] w fun e w' => e = .returned (.int .i64 ((i + 1 : Nat) : Int)) ∧ Below w.heap.size w w' := by
  obtain ⟨g0, g1, g2, g3, g4, g5, g6, g7, g8, g9, g10, g11, g12, g13, g14, g15, g16, g17, g18, g19⟩ := num_cells H
  have H := Lib.hid H
  go_enter Tryd.func29, Tryd.ntmps29
  go_wp2_with fail
  obtain ⟨w1, hw1⟩ : ∃ w1, w1 = w.alloc (Obj.cells (errList a) 41) := ⟨_, rfl⟩
  have hcl : ∀ m, m < 20 → w1.cell? ⟨w.heap.size, m, none⟩ = some (.iface 161 (.pointer (some (a m)))) := by
    intro m hm
    rw [hw1, cell_of_block (heap_alloc_new w _)]
    exact errList_at a m hm
  have hb1 : Below w.heap.size w w1 := by rw [hw1]; exact (Below.refl _ _).alloc (Nat.le_refl _) _
  have H1 := Lib.hid (H.out.below hb1)
  have hw := Lib.hid (cell_of_block ((hb1.block g (block_lt hg)).trans hg) 2)
  have hw2 := Lib.hid (cell_of_block ((hb1.block u (block_lt hu)).trans hu) 2)
  clear hg hu
  have hcl := Lib.hid hcl
  unfold errList at hw1
  rw [← hw1]
  clear hw1 H
  clear g0 g1 g2 g3 g4 g5 g6 g7 g8 g9 g10 g11 g12 g13 g14 g15 g16 g17 g18 g19
  go_loop [31] (fun j => ∃ m : Nat, m ≤ i ∧ j = .int .i64 m) (fun j => i - (intOf j).toNat)
  case atStart => exact ⟨0, Nat.zero_le _, rfl⟩
  case round =>
    obtain ⟨m, hm, rfl⟩ := hrel
    have hc := hcl.out m (by omega)
    by_cases hlt : m < i
    · obtain ⟨c1, t1, o1⟩ := H1.out.obj i hi
      obtain ⟨c2, t2, o2⟩ := H1.out.obj m (by show m < 20; omega)
      have hne : a i ≠ a m := fun e => by have := H1.out.inj i m hi (by show m < 20; omega) e; omega
      have o1 := Lib.hid o1
      have o2 := Lib.hid o2
      have hne := Lib.hid hne
      go_wp2_with fail
      refine (is_wrap2_other u 0 g 0 (a m) (a i) c1 c2 t1 t2 _ hw2.out hw.out hne.out o1.out o2.out).mono ?_
      rintro e w2 ⟨rfl, rfl⟩
      go_wp2_with fail
      exact ⟨⟨m + 1, by omega, by go_num⟩, by simp [intOf]; omega⟩
    · obtain rfl : m = i := by omega
      go_wp2_with fail
      refine (is_wrap2_same u 0 g 0 (a m) _ hw2.out hw.out).mono ?_
      rintro e w2 ⟨rfl, rfl⟩
      go_wp2_with fail
      go_ret
      exact ⟨rfl, hb1⟩


end Go.Proofs.YtgkddegaiaeckaaDoor
/- errors.As at a concrete target (after the kit's worked text ToyasAs, turned to this seat), journal.Where. -/
namespace Go.Proofs.YtgkddegaiaeckaaDoor
open Go.RowKit Go.Extern.Stop Go.Stop Go.Extern


/-- errors.As(nil, target). -/
theorem as_nil (t : Value) (w : World) :
    Calls Tryd.prog 45 #[.nilIface, t] w fun e w' => e = .returned (.bool false) ∧ w' = w := by
  go_enter Tryd.func45, Tryd.ntmps45
  go_wp2
  go_ret
  exact ⟨rfl, rfl⟩

/-! ### CLOSED FACTS ON THE MODEL's ENTRIES FOR internal/reflectlite, at this program's types: 25: *p.E · 27: **p.E · 23: error · 45: reflectlite's rtype · 1: how many package-level variables the dump has -/
theorem as_valueOf27 (t : Addr) (w : World) : (ReflectliteValue.unpack (.iface 89 (.pointer (some t)))).run Tryd.prog w
    = .ok (.agg #[.pointer (some ⟨28, 89, none⟩), .pointer (some ⟨w.heap.size, 0, none⟩), .int .u64 150]) (w.alloc (.cells #[.pointer (some t)] 89)) := by kernel_rfl
theorem as_type27 (a : Addr) (w : World) : (ReflectliteValue.methodAny (ReflectliteValue.valueError "reflectlite.Value.Type" 0) (fun t _ _ _ => ReflectliteType.toType t) #[.agg #[.pointer (some ⟨28, 89, none⟩), .pointer (some a), .int .u64 150]]).run Tryd.prog w
    = .ok (.iface 124 (.agg #[.pointer (some ⟨28, 89, none⟩)])) w := by kernel_rfl
theorem as_methodKind (h : Value) (w : World) : (Go.method 292 124 (.agg #[h]) "Kind").run Tryd.prog w = .ok (107, h) w := by kernel_rfl
theorem as_kind27 (w : World) : ((ReflectliteType.abiMethod fun t => (fun a : Nat => Value.int IntKind.u8 (a : Int)) <$> Rtype.kind t) #[.pointer (some ⟨28, 89, none⟩)]).run Tryd.prog w = .ok (.int .u8 22) w := by kernel_rfl
theorem as_kind25 (w : World) : ((ReflectliteType.abiMethod fun t => (fun a : Nat => Value.int IntKind.u8 (a : Int)) <$> Rtype.kind t) #[.pointer (some ⟨28, 57, none⟩)]).run Tryd.prog w = .ok (.int .u8 22) w := by kernel_rfl

/-! ### THE ENTRIES THAT READ OR WRITE MEMORY: laws with a premise on the cell (after Derived/Lib/ReflectliteSlice.lean's manner: each unfolding a lemma of its own, by rfl) -/
theorem rlm (z : Sem Value) (f : TypeId → Addr → Nat → Nat → Sem Value) (v : Value) :
    ReflectliteValue.method z f #[v] = (do match ← ReflectliteValue.parts v with | none => z | some (t, a, fl) => f t a fl (fl % 32)) := rfl
theorem as_parts27 (a : Addr) (w : World) : (ReflectliteValue.parts (.agg #[.pointer (some ⟨28, 89, none⟩), .pointer (some a), .int .u64 150])).run Tryd.prog w = .ok (some (89, a, 150)) w := by kernel_rfl
/-- (Value).IsNil at the Value of a **p.E that is not nil. -/
theorem as_isNil27 (a p : Addr) (W : World) (ha : W.cell? a = some (.pointer (some p))) :
    (ReflectliteValue.method (ReflectliteValue.valueError "reflectlite.Value.IsNil" 0) ReflectliteValue.isNil #[.agg #[.pointer (some ⟨28, 89, none⟩), .pointer (some a), .int .u64 150]]).run Tryd.prog W = .ok (.bool false) W := by
  rw [rlm]
  simp only [Sem.run_bind, as_parts27, Result.andThen]
  simp [ReflectliteValue.isNil, loadVar, isAgg, underlying, Tryd.underlying89, ha, Result.andThen]

theorem as_methodElem (h : Value) (w : World) : (Go.method 292 124 (.agg #[h]) "Elem").run Tryd.prog w = .ok (118, .agg #[h]) w := by kernel_rfl
theorem as_methodImplements (h : Value) (w : World) : (Go.method 292 124 (.agg #[h]) "Implements").run Tryd.prog w = .ok (119, .agg #[h]) w := by kernel_rfl
theorem as_methodAssignableTo (h : Value) (w : World) : (Go.method 292 124 (.agg #[h]) "AssignableTo").run Tryd.prog w = .ok (116, .agg #[h]) w := by kernel_rfl
theorem as_elem27 (w : World) : (ReflectliteType.method ReflectliteType.elem #[.agg #[.pointer (some ⟨28, 89, none⟩)]]).run Tryd.prog w = .ok (.iface 124 (.agg #[.pointer (some ⟨28, 57, none⟩)])) w := by kernel_rfl
theorem as_implements25 (w : World) : (ReflectliteType.relation "Implements" ReflectliteType.implements_ #[.agg #[.pointer (some ⟨28, 57, none⟩)], .iface 124 (.agg #[.pointer (some ⟨28, 41, none⟩)])]).run Tryd.prog w = .ok (.bool true) w := by kernel_rfl
theorem as_typeOf25 (v : Value) (w : World) : (ReflectliteType.typeOf #[.iface 57 v]).run Tryd.prog w = .ok (.iface 124 (.agg #[.pointer (some ⟨28, 57, none⟩)])) w := by kernel_rfl
theorem as_assignable25 (w : World) : (ReflectliteType.relation "AssignableTo" ReflectliteType.assignableTo #[.agg #[.pointer (some ⟨28, 57, none⟩)], .iface 124 (.agg #[.pointer (some ⟨28, 57, none⟩)])]).run Tryd.prog w = .ok (.bool true) w := by kernel_rfl
theorem as_valueOf25 (e : Addr) (w : World) : (ReflectliteValue.unpack (.iface 57 (.pointer (some e)))).run Tryd.prog w
    = .ok (.agg #[.pointer (some ⟨28, 57, none⟩), .pointer (some ⟨w.heap.size, 0, none⟩), .int .u64 150]) (w.alloc (.cells #[.pointer (some e)] 57)) := by kernel_rfl

theorem as_elemOf27 (w : World) : (Rtype.elem? 89).run Tryd.prog w = .ok (some 57) w := by kernel_rfl
theorem as_mk25 (p : Addr) (w : World) : (ReflectliteValue.mk 57 p ReflectliteValue.flagAddr).run Tryd.prog w = .ok (.agg #[.pointer (some ⟨28, 57, none⟩), .pointer (some p), .int .u64 406]) w := by kernel_rfl
/-- (Value).Elem at the Value of a **p.E that is not nil: the Value of the *p.E variable that it points to, addressable. -/
theorem as_elemV27 (a p : Addr) (W : World) (ha : W.cell? a = some (.pointer (some p))) :
    (ReflectliteValue.method (ReflectliteValue.valueError "reflectlite.Value.Elem" 0) ReflectliteValue.elem #[.agg #[.pointer (some ⟨28, 89, none⟩), .pointer (some a), .int .u64 150]]).run Tryd.prog W
      = .ok (.agg #[.pointer (some ⟨28, 57, none⟩), .pointer (some p), .int .u64 406]) W := by
  rw [rlm]
  simp only [Sem.run_bind, as_parts27, Result.andThen]
  simp [ReflectliteValue.elem, loadVar, isAgg, underlying, Tryd.underlying89, ha, Result.andThen, as_elemOf27, as_mk25]
theorem rls (v x : Value) : ReflectliteValue.set #[v, x] = (do
    let (some (dst, a, fl), some (src, b, _)) := (← ReflectliteValue.parts v, ← ReflectliteValue.parts x)
      | unsupported (.noEntry "extern/(internal/reflectlite.Value).Set.zeroValue")
    if fl / ReflectliteValue.flagAddr % 2 == 0 then unsupported (.noEntry "extern/(internal/reflectlite.Value).Set.unaddressable")
    let val ← loadVar src b
    if ← Rtype.directlyAssignable dst src then storeVar dst a val
    else if ← Rtype.implements dst src then
      if (← Rtype.kind src) == 20 then
        match val with
        | .nilIface => unsupported (.noEntry "extern/reflectlite: a nil value of one interface type handed on as a value of another")
        | _ => storeVar dst a val
      else storeVar dst a (.iface src val)
    else panicString ("reflectlite.Set: value of type " ++ (← Rtype.spelt src) ++ " is not assignable to type " ++ (← Rtype.spelt dst))
    pure (.tuple #[])) := rfl
theorem as_parts25a (a : Addr) (w : World) : (ReflectliteValue.parts (.agg #[.pointer (some ⟨28, 57, none⟩), .pointer (some a), .int .u64 406])).run Tryd.prog w = .ok (some (57, a, 406)) w := by kernel_rfl
theorem as_parts25 (a : Addr) (w : World) : (ReflectliteValue.parts (.agg #[.pointer (some ⟨28, 57, none⟩), .pointer (some a), .int .u64 150])).run Tryd.prog w = .ok (some (57, a, 150)) w := by kernel_rfl
theorem as_direct25 (w : World) : (Rtype.directlyAssignable 57 57).run Tryd.prog w = .ok true w := by kernel_rfl
theorem as_size25 (w : World) : (sizeOf 57).run Tryd.prog w = .ok 1 w := by kernel_rfl
/-- (Value).Set: the *p.E variable at 'ta' gets what the Value's own variable 'b' holds. -/
theorem as_set25 (ta b e : Addr) (old : Value) (W : World) (hb : W.cell? b = some (.pointer (some e))) (ht : W.cell? ta = some old) (hf : W.frozen? ta = false) :
    (ReflectliteValue.set #[.agg #[.pointer (some ⟨28, 57, none⟩), .pointer (some ta), .int .u64 406], .agg #[.pointer (some ⟨28, 57, none⟩), .pointer (some b), .int .u64 150]]).run Tryd.prog W
      = .ok (.tuple #[]) (W.setCell ta (.pointer (some e))) := by
  rw [rls]
  simp only [Sem.run_bind, as_parts25a, as_parts25, Result.andThen]
  simp [ReflectliteValue.flagAddr, loadVar, isAgg, underlying, Tryd.underlying57, hb, Result.andThen, as_direct25, storeVar, Value.cells, storeCells, Addr.add]
  rw [run_store Tryd.prog W ta _ _ (by rfl)]
  simp [ht, hf]

set_option maxHeartbeats 4000000 in
theorem as_hit (e t : Addr) (old : Value) (w : World) (hg : w.cell? ⟨22, 0, none⟩ = some (.iface 124 (.agg #[.pointer (some ⟨28, 41, none⟩)]))) (ht0 : w.cell? t = some old) (hf0 : w.frozen? t = false) :
    Calls Tryd.prog 45 #[.iface 57 (.pointer (some e)), .iface 89 (.pointer (some t))] w fun ev w' => ev = .returned (.bool true) ∧ w' = ((((w.alloc (.cells #[.pointer (some t)] 89)).alloc (.cells #[.pointer (some ⟨28, 89, none⟩), .pointer (some ⟨w.heap.size, 0, none⟩), .int .u64 150] 103)).alloc (.cells #[.pointer (some ⟨28, 89, none⟩), .pointer (some ⟨w.heap.size, 0, none⟩), .int .u64 150] 103)).alloc (.cells #[.pointer (some e)] 57)).setCell t (.pointer (some e)) := by
  have h6 := @run_callFunc_extern Tryd.prog 56 _ (fun args => ReflectliteValue.unpack (args.getD 0 (.tuple #[]))) Tryd.func56 (by kernel_rfl) (by kernel_rfl) (by kernel_rfl) (by kernel_rfl)
  have h7 := @run_callFunc_extern Tryd.prog 57 _ (ReflectliteValue.methodAny (ReflectliteValue.valueError "reflectlite.Value.Type" 0) (fun t _ _ _ => ReflectliteType.toType t)) Tryd.func57 (by kernel_rfl) (by kernel_rfl) (by kernel_rfl) (by kernel_rfl)
  have h8 := @run_callFunc_extern Tryd.prog 58 _ (ReflectliteValue.method (ReflectliteValue.valueError "reflectlite.Value.IsNil" 0) ReflectliteValue.isNil) Tryd.func58 (by kernel_rfl) (by kernel_rfl) (by kernel_rfl) (by kernel_rfl)
  have h27 := @run_callFunc_extern Tryd.prog 107 _ (ReflectliteType.abiMethod fun t => do pure (.int .u8 (← Rtype.kind t))) Tryd.func107 (by kernel_rfl) (by kernel_rfl) (by kernel_rfl) (by kernel_rfl)
  have h37 := @run_callFunc_extern Tryd.prog 118 _ (ReflectliteType.method ReflectliteType.elem) Tryd.func118 (by kernel_rfl) (by kernel_rfl) (by kernel_rfl) (by kernel_rfl)
  have h38 := @run_callFunc_extern Tryd.prog 119 _ (ReflectliteType.relation "Implements" ReflectliteType.implements_) Tryd.func119 (by kernel_rfl) (by kernel_rfl) (by kernel_rfl) (by kernel_rfl)
  have h10 := @run_callFunc_extern Tryd.prog 61 _ ReflectliteType.typeOf Tryd.func61 (by kernel_rfl) (by kernel_rfl) (by kernel_rfl) (by kernel_rfl)
  have h35 := @run_callFunc_extern Tryd.prog 116 _ (ReflectliteType.relation "AssignableTo" ReflectliteType.assignableTo) Tryd.func116 (by kernel_rfl) (by kernel_rfl) (by kernel_rfl) (by kernel_rfl)
  have h11 := @run_callFunc_extern Tryd.prog 71 _ (ReflectliteValue.method (ReflectliteValue.valueError "reflectlite.Value.Elem" 0) ReflectliteValue.elem) Tryd.func71 (by kernel_rfl) (by kernel_rfl) (by kernel_rfl) (by kernel_rfl)
  have h12 := @run_callFunc_extern Tryd.prog 72 _ ReflectliteValue.set Tryd.func72 (by kernel_rfl) (by kernel_rfl) (by kernel_rfl) (by kernel_rfl)
  have tO := as_typeOf25
  have mA := as_methodAssignableTo
  have a25 := as_assignable25
  have v25 := as_valueOf25
  have f6 := as_valueOf27
  have f7 := as_type27
  have mK := as_methodKind
  have mE := as_methodElem
  have mI := as_methodImplements
  have k27 := as_kind27
  have k25 := as_kind25
  have e27 := as_elem27
  have i25 := as_implements25
  have n8 := as_isNil27 ⟨w.heap.size, 0, none⟩ t ((w.alloc (.cells #[.pointer (some t)] 89)).alloc (.cells #[.pointer (some ⟨28, 89, none⟩), .pointer (some ⟨w.heap.size, 0, none⟩), .int .u64 150] 103)) (by simp)
  have hlt : 22 < w.heap.size := World.block_lt_of_cell? w _ hg
  have hg2 : ((w.alloc (.cells #[.pointer (some t)] 89)).alloc (.cells #[.pointer (some ⟨28, 89, none⟩), .pointer (some ⟨w.heap.size, 0, none⟩), .int .u64 150] 103)).cell? ⟨22, 0, none⟩ = some (.iface 124 (.agg #[.pointer (some ⟨28, 41, none⟩)])) := by
    rw [World.cell?_alloc_lt _ _ ⟨22, 0, none⟩ (by simp; omega), World.cell?_alloc_lt _ _ ⟨22, 0, none⟩ hlt]; exact hg
  have htl : t.block < w.heap.size := by
    rcases Nat.lt_or_ge t.block w.heap.size with h | h
    · exact h
    · simp [World.cell?, Array.getElem?_eq_none h] at ht0
  have el := as_elemV27 ⟨w.heap.size, 0, none⟩ t (((w.alloc (.cells #[.pointer (some t)] 89)).alloc (.cells #[.pointer (some ⟨28, 89, none⟩), .pointer (some ⟨w.heap.size, 0, none⟩), .int .u64 150] 103)).alloc (.cells #[.pointer (some ⟨28, 89, none⟩), .pointer (some ⟨w.heap.size, 0, none⟩), .int .u64 150] 103)) (by rw [World.cell?_alloc_lt _ _ ⟨w.heap.size, 0, none⟩ (by simp; omega)]; simp)
  have st := as_set25 t ⟨w.heap.size + 1 + 1 + 1, 0, none⟩ e old ((((w.alloc (.cells #[.pointer (some t)] 89)).alloc (.cells #[.pointer (some ⟨28, 89, none⟩), .pointer (some ⟨w.heap.size, 0, none⟩), .int .u64 150] 103)).alloc (.cells #[.pointer (some ⟨28, 89, none⟩), .pointer (some ⟨w.heap.size, 0, none⟩), .int .u64 150] 103)).alloc (.cells #[.pointer (some e)] 57))
    (by rw [World.cell?_alloc_at _ _ _ _ (by simp)]; rfl)
    (by rw [World.cell?_alloc_lt _ _ t (by simp; omega), World.cell?_alloc_lt _ _ t (by simp; omega), World.cell?_alloc_lt _ _ t (by simp; omega), World.cell?_alloc_lt _ _ t htl]; exact ht0)
    (by rw [World.frozen?_alloc_old _ _ t (by simp; omega), World.frozen?_alloc_old _ _ t (by simp; omega), World.frozen?_alloc_old _ _ t (by simp; omega), World.frozen?_alloc_old _ _ t (Nat.ne_of_lt htl)]; exact hf0)
  go_enter Tryd.func45, Tryd.ntmps45
  go_wp2
  refine wp_loop_rounds 1 ?_
  rw [rounds_succ]
  go_wp2
  go_ret
  exact ⟨rfl, rfl⟩
end Go.Proofs.YtgkddegaiaeckaaDoor
/- errors.As and journal.Where where there is no *journal.Fault, and where it wraps whatever. -/
namespace Go.Proofs.YtgkddegaiaeckaaDoor
open Go Go.RowKit Go.Extern

theorem noAsE (v : Value) (xT : TypeId) (w : World) : (Instr.typeAssert (.iface 161 v) xT 128 true).run Tryd.prog w = .ok (.tuple #[.nilIface, .bool false]) w := run_typeAssert_lacksB Tryd.underlying128 (by kernel_rfl) (by kernel_rfl) v xT w
theorem as_typeOfE (v : Value) (w : World) : (ReflectliteType.typeOf #[.iface 161 v]).run Tryd.prog w = .ok (.iface 124 (.agg #[.pointer (some ⟨28, 161, none⟩)])) w := by kernel_rfl
theorem as_assignableE (w : World) : (ReflectliteType.relation "AssignableTo" ReflectliteType.assignableTo #[.agg #[.pointer (some ⟨28, 161, none⟩)], .iface 124 (.agg #[.pointer (some ⟨28, 57, none⟩)])]).run Tryd.prog w = .ok (.bool false) w := by kernel_rfl

set_option maxHeartbeats 4000000 in
theorem as_miss (z t : Addr) (old : Value) (w : World) (hg : w.cell? ⟨22, 0, none⟩ = some (.iface 124 (.agg #[.pointer (some ⟨28, 41, none⟩)]))) (ht0 : w.cell? t = some old) :
    Calls Tryd.prog 45 #[.iface 161 (.pointer (some z)), .iface 89 (.pointer (some t))] w fun ev w' => ev = .returned (.bool false) ∧ Below w.heap.size w w' := by
  have h6 := @run_callFunc_extern Tryd.prog 56 _ (fun args => ReflectliteValue.unpack (args.getD 0 (.tuple #[]))) Tryd.func56 (by kernel_rfl) (by kernel_rfl) (by kernel_rfl) (by kernel_rfl)
  have h7 := @run_callFunc_extern Tryd.prog 57 _ (ReflectliteValue.methodAny (ReflectliteValue.valueError "reflectlite.Value.Type" 0) (fun t _ _ _ => ReflectliteType.toType t)) Tryd.func57 (by kernel_rfl) (by kernel_rfl) (by kernel_rfl) (by kernel_rfl)
  have h8 := @run_callFunc_extern Tryd.prog 58 _ (ReflectliteValue.method (ReflectliteValue.valueError "reflectlite.Value.IsNil" 0) ReflectliteValue.isNil) Tryd.func58 (by kernel_rfl) (by kernel_rfl) (by kernel_rfl) (by kernel_rfl)
  have h27 := @run_callFunc_extern Tryd.prog 107 _ (ReflectliteType.abiMethod fun t => do pure (.int .u8 (← Rtype.kind t))) Tryd.func107 (by kernel_rfl) (by kernel_rfl) (by kernel_rfl) (by kernel_rfl)
  have h37 := @run_callFunc_extern Tryd.prog 118 _ (ReflectliteType.method ReflectliteType.elem) Tryd.func118 (by kernel_rfl) (by kernel_rfl) (by kernel_rfl) (by kernel_rfl)
  have h38 := @run_callFunc_extern Tryd.prog 119 _ (ReflectliteType.relation "Implements" ReflectliteType.implements_) Tryd.func119 (by kernel_rfl) (by kernel_rfl) (by kernel_rfl) (by kernel_rfl)
  have h10 := @run_callFunc_extern Tryd.prog 61 _ ReflectliteType.typeOf Tryd.func61 (by kernel_rfl) (by kernel_rfl) (by kernel_rfl) (by kernel_rfl)
  have h35 := @run_callFunc_extern Tryd.prog 116 _ (ReflectliteType.relation "AssignableTo" ReflectliteType.assignableTo) Tryd.func116 (by kernel_rfl) (by kernel_rfl) (by kernel_rfl) (by kernel_rfl)
  have h11 := @run_callFunc_extern Tryd.prog 71 _ (ReflectliteValue.method (ReflectliteValue.valueError "reflectlite.Value.Elem" 0) ReflectliteValue.elem) Tryd.func71 (by kernel_rfl) (by kernel_rfl) (by kernel_rfl) (by kernel_rfl)
  have h12 := @run_callFunc_extern Tryd.prog 72 _ ReflectliteValue.set Tryd.func72 (by kernel_rfl) (by kernel_rfl) (by kernel_rfl) (by kernel_rfl)
  have tO := as_typeOfE
  have mA := as_methodAssignableTo
  have a25 := as_assignableE
  have nA := noAsE
  have uE := Tryd.noUnwrapE
  have vE := Tryd.noUnwrapsE
  have f6 := as_valueOf27
  have f7 := as_type27
  have mK := as_methodKind
  have mE := as_methodElem
  have mI := as_methodImplements
  have k27 := as_kind27
  have k25 := as_kind25
  have e27 := as_elem27
  have i25 := as_implements25
  have n8 := as_isNil27 ⟨w.heap.size, 0, none⟩ t ((w.alloc (.cells #[.pointer (some t)] 89)).alloc (.cells #[.pointer (some ⟨28, 89, none⟩), .pointer (some ⟨w.heap.size, 0, none⟩), .int .u64 150] 103)) (by simp)
  have hlt : 22 < w.heap.size := World.block_lt_of_cell? w _ hg
  have hg2 : ((w.alloc (.cells #[.pointer (some t)] 89)).alloc (.cells #[.pointer (some ⟨28, 89, none⟩), .pointer (some ⟨w.heap.size, 0, none⟩), .int .u64 150] 103)).cell? ⟨22, 0, none⟩ = some (.iface 124 (.agg #[.pointer (some ⟨28, 41, none⟩)])) := by
    rw [World.cell?_alloc_lt _ _ ⟨22, 0, none⟩ (by simp; omega), World.cell?_alloc_lt _ _ ⟨22, 0, none⟩ hlt]; exact hg
  have htl : t.block < w.heap.size := by
    rcases Nat.lt_or_ge t.block w.heap.size with h | h
    · exact h
    · simp [World.cell?, Array.getElem?_eq_none h] at ht0
  go_enter Tryd.func45, Tryd.ntmps45
  go_wp2
  refine wp_loop_rounds 1 ?_
  rw [rounds_succ]
  go_wp2
  go_ret
  exact ⟨rfl, (((Below.refl _ _).alloc (Nat.le_refl _) _).alloc (by simp) _).alloc (by simp; omega) _⟩

set_option maxHeartbeats 2000000 in
theorem field_hitV (g : Nat) (F : ByteArray) (V : Int) (E : Value) (w : World) (hT : TypeVar w) (hg : w.heap[g]? = some (.cells #[.string F, .int .i64 V, E] 59 (0, 0))) :
    Calls Tryd.prog 26 #[.iface 57 (.pointer (some ⟨g, 0, none⟩))] w fun e w' => e = .returned (.tuple #[.string F, .int .i64 V, .bool true]) ∧ Below w.heap.size w w' := by
  have hlt := (Array.getElem?_eq_some_iff.1 hg).1
  have hb0 := (Below.refl w.heap.size w).alloc (Nat.le_refl _) (.cells #[.pointer none] 57)
  have hT1 := hT.below hb0
  have hcall := Lib.hid (as_hit ⟨g, 0, none⟩ ⟨w.heap.size, 0, none⟩ (.pointer none) (w.alloc (.cells #[.pointer none] 57)) hT1 (by simp) (by simp))
  replace hb0 := Lib.hid hb0
  replace hg := Lib.hid hg
  clear hT hT1
  go_enter Tryd.func26, Tryd.ntmps26
  go_wp2_with fail
  with_reducible refine hcall.out.mono ?_
  rintro e w2 ⟨rfl, hw2⟩
  have hB : Below w.heap.size w w2 := by
    rw [hw2]
    refine below_set_new ((((hb0.out.alloc ?_ _).alloc ?_ _).alloc ?_ _).alloc ?_ _) (Nat.le_refl _)
    all_goals (simp; try omega)
  have c0 : w2.cell? ⟨w.heap.size, 0, none⟩ = some (.pointer (some ⟨g, 0, none⟩)) := by
    rw [hw2]
    have hX := ((((((Below.refl (w.alloc (.cells #[.pointer none] 57)).heap.size (w.alloc (.cells #[.pointer none] 57))).alloc (Nat.le_refl _) (.cells #[.pointer (some ⟨w.heap.size, 0, none⟩)] 89)).alloc (by simp) (.cells #[.pointer (some ⟨28, 89, none⟩), .pointer (some ⟨(w.alloc (.cells #[.pointer none] 57)).heap.size, 0, none⟩), .int .u64 150] 103)).alloc (by simp) (.cells #[.pointer (some ⟨28, 89, none⟩), .pointer (some ⟨(w.alloc (.cells #[.pointer none] 57)).heap.size, 0, none⟩), .int .u64 150] 103)).alloc (by simp) (.cells #[.pointer (some ⟨g, 0, none⟩)] 57)).block w.heap.size (by simp)).trans (heap_alloc_new w (.cells #[.pointer none] 57))
    exact (cell_of_block ((Upd.refl hX).setCell (j := 0) (.pointer (some ⟨g, 0, none⟩))).here 0).trans (by simp)
  have hg2 := (hB.block g hlt).trans hg.out
  obtain ⟨⟨d0, d1, d2⟩, _⟩ := cells3 hg2
  clear hw2 hg2 hcall
  replace hB := Lib.hid hB
  go_wp2_with fail
  go_quiet (fail)
  go_wp2
  go_ret3
  exact ⟨rfl, below_drewN hB.out _⟩
end Go.Proofs.YtgkddegaiaeckaaDoor
