/- Is, Num. -/
import Derived.Test.YtndgacjfkoliaaaDoorRows
import Derived.Test.YtndgacjfkoliaaaDoorBase
import Derived.LaidEql
import Derived.Stop.Asserts
import Derived.RowKitTokens
import Derived.Test.YtndgacjfkoliaaaDoorF10PlaysSaid34
import Derived.Outline
/- errors.Is by its contracts, where the target is a sentinel of errors.New's make (after the kit's worked text SentryIs, turned to this seat). -/
namespace Go.Proofs.YtndgacjfkoliaaaDoor
open Go.RowKit Go.Extern.Stop Go.Stop Go.Extern

/-! ### CLOSED FACTS: what 'reflectlite.TypeOf(target).Comparable()' gives at such a target -/
theorem Tryd.isTypeOf (v : Value) (w : World) : (Extern.ReflectliteType.typeOf #[.iface 137 v]).run Tryd.prog w = .ok (.iface 115 (.agg #[.pointer (some ⟨23, 137, none⟩)])) w := by kernel_rfl
/-- The model's entry for (rtype).Comparable. -/
noncomputable def cmpExt : Array Value → Sem Value := Extern.ReflectliteType.method fun t => do Extern.Rtype.noPackHeld "Comparable" t; pure (.bool (← typeInfo t).comparable)
theorem Tryd.isComparable (w : World) : (cmpExt #[.agg #[.pointer (some ⟨23, 137, none⟩)]]).run Tryd.prog w = .ok (.bool true) w := by kernel_rfl
theorem Tryd.isMethodComparable (v : Value) (w : World) : (Go.method 275 115 v "Comparable").run Tryd.prog w = .ok (86, v) w := by kernel_rfl
theorem Tryd.isComp : (Tryd.prog.info? 137).map (·.comparable) = some true := by kernel_rfl
theorem Tryd.isSize : (Tryd.prog.info? 163).map (·.size) = some 1 := by kernel_rfl

/-! ### CLOSED FACTS ON THE METHOD SETS: what errors.is's assertions find -/
theorem Tryd.noIsE (v : Value) (xT : TypeId) (w : World) : (Instr.typeAssert (.iface 137 v) xT 117 true).run Tryd.prog w = .ok (.tuple #[.nilIface, .bool false]) w := run_typeAssert_lacksB Tryd.underlying117 (by kernel_rfl) (by kernel_rfl) v xT w
theorem Tryd.noUnwrapE (v : Value) (xT : TypeId) (w : World) : (Instr.typeAssert (.iface 137 v) xT 120 true).run Tryd.prog w = .ok (.tuple #[.nilIface, .bool false]) w := run_typeAssert_lacksB Tryd.underlying120 (by kernel_rfl) (by kernel_rfl) v xT w
theorem Tryd.noUnwrapsE (v : Value) (xT : TypeId) (w : World) : (Instr.typeAssert (.iface 137 v) xT 122 true).run Tryd.prog w = .ok (.tuple #[.nilIface, .bool false]) w := run_typeAssert_lacksB Tryd.underlying122 (by kernel_rfl) (by kernel_rfl) v xT w

/-- errors.Is(x, x), x a pointer to an errors.errorString. -/
theorem is_same (a : Addr) (w : World) :
    Calls Tryd.prog 35 #[.iface 137 (.pointer (some a)), .iface 137 (.pointer (some a))] w fun e w' => e = .returned (.bool true) ∧ w = w' := by
  obtain ⟨i, hi, hcmp⟩ := Option.map_eq_some_iff.1 Tryd.isComp
  obtain ⟨j, hj, hjs⟩ := Option.map_eq_some_iff.1 Tryd.isSize
  have h8 := @run_callFunc_extern Tryd.prog 42 _ Extern.ReflectliteType.typeOf Tryd.func42 (by kernel_rfl) (by kernel_rfl) (by kernel_rfl) (by kernel_rfl)
  have h32 := @run_callFunc_extern Tryd.prog 86 _ cmpExt Tryd.func86 (by kernel_rfl) (by kernel_rfl) (by kernel_rfl) (by kernel_rfl)
  have tT := Tryd.isTypeOf
  have cT := Tryd.isComparable
  have mR := Tryd.isMethodComparable
  have heq := run_eql_iface_ptr_same (P := Tryd.prog) w a Tryd.underlying50 Tryd.underlying137 hi hcmp hj
  go_enter Tryd.func35, Tryd.ntmps35
  go_wp2
  refine wp_loop_rounds 1 ?_
  rw [rounds_succ]
  go_wp2
  go_ret
  exact ⟨rfl, rfl⟩

/-- errors.Is(nil, x). -/
theorem is_nil (b : Addr) (w : World) :
    Calls Tryd.prog 35 #[.nilIface, .iface 137 (.pointer (some b))] w fun e w' => e = .returned (.bool false) ∧ w = w' := by
  have hn := run_eql_iface_nil_left (P := Tryd.prog) w 137 (.pointer (some b)) Tryd.underlying50
  go_enter Tryd.func35, Tryd.ntmps35
  go_wp2
  go_ret
  exact ⟨rfl, rfl⟩

/-- errors.Is(x, y), two different pointers to errors.errorString: neither has Is nor Unwrap: false. -/
theorem is_other (a b : Addr) (ca cb : Array Value) (ta tb : TypeId) (w : World) (hne : a ≠ b) (ha : w.heap[a.block]? = some (.cells ca ta (0, 0))) (hb : w.heap[b.block]? = some (.cells cb tb (0, 0))) :
    Calls Tryd.prog 35 #[.iface 137 (.pointer (some a)), .iface 137 (.pointer (some b))] w fun e w' => e = .returned (.bool false) ∧ w = w' := by
  obtain ⟨i, hi, hcmp⟩ := Option.map_eq_some_iff.1 Tryd.isComp
  obtain ⟨j, hj, hjs⟩ := Option.map_eq_some_iff.1 Tryd.isSize
  have h8 := @run_callFunc_extern Tryd.prog 42 _ Extern.ReflectliteType.typeOf Tryd.func42 (by kernel_rfl) (by kernel_rfl) (by kernel_rfl) (by kernel_rfl)
  have h32 := @run_callFunc_extern Tryd.prog 86 _ cmpExt Tryd.func86 (by kernel_rfl) (by kernel_rfl) (by kernel_rfl) (by kernel_rfl)
  have tT := Tryd.isTypeOf
  have cT := Tryd.isComparable
  have mR := Tryd.isMethodComparable
  have nE := Tryd.noIsE
  have uE := Tryd.noUnwrapE
  have vE := Tryd.noUnwrapsE
  have heq := run_eql_iface_ptr_other (P := Tryd.prog) w Tryd.underlying50 Tryd.underlying137 hi hcmp hj (by rw [hjs]; decide) hne ha hb
  go_enter Tryd.func35, Tryd.ntmps35
  go_wp2
  refine wp_loop_rounds 1 ?_
  rw [rounds_succ]
  go_wp2
  go_ret
  exact ⟨rfl, rfl⟩


end Go.Proofs.YtndgacjfkoliaaaDoor
/- baileenum.Num by its contracts: the number of a sentinel, and of nil. -/
namespace Go.Proofs.YtndgacjfkoliaaaDoor
open Go.RowKit

/-- The variables of package api's errors, in the document's order. -/
def errGs : List Nat := [8, 9, 10, 11, 12, 1, 6, 0, 13, 2, 4, 3, 5, 14, 15, 16, 17, 7, 18, 19]

/-- The walk of Num's list: the twenty cells. -/
theorem num_cells {w : World} {a : Nat → Addr} (H : Errs 137 errGs w a) :
    w.cell? ⟨8, 0, none⟩ = some (.iface 137 (.pointer (some (a 0)))) ∧
    w.cell? ⟨9, 0, none⟩ = some (.iface 137 (.pointer (some (a 1)))) ∧
    w.cell? ⟨10, 0, none⟩ = some (.iface 137 (.pointer (some (a 2)))) ∧
    w.cell? ⟨11, 0, none⟩ = some (.iface 137 (.pointer (some (a 3)))) ∧
    w.cell? ⟨12, 0, none⟩ = some (.iface 137 (.pointer (some (a 4)))) ∧
    w.cell? ⟨1, 0, none⟩ = some (.iface 137 (.pointer (some (a 5)))) ∧
    w.cell? ⟨6, 0, none⟩ = some (.iface 137 (.pointer (some (a 6)))) ∧
    w.cell? ⟨0, 0, none⟩ = some (.iface 137 (.pointer (some (a 7)))) ∧
    w.cell? ⟨13, 0, none⟩ = some (.iface 137 (.pointer (some (a 8)))) ∧
    w.cell? ⟨2, 0, none⟩ = some (.iface 137 (.pointer (some (a 9)))) ∧
    w.cell? ⟨4, 0, none⟩ = some (.iface 137 (.pointer (some (a 10)))) ∧
    w.cell? ⟨3, 0, none⟩ = some (.iface 137 (.pointer (some (a 11)))) ∧
    w.cell? ⟨5, 0, none⟩ = some (.iface 137 (.pointer (some (a 12)))) ∧
    w.cell? ⟨14, 0, none⟩ = some (.iface 137 (.pointer (some (a 13)))) ∧
    w.cell? ⟨15, 0, none⟩ = some (.iface 137 (.pointer (some (a 14)))) ∧
    w.cell? ⟨16, 0, none⟩ = some (.iface 137 (.pointer (some (a 15)))) ∧
    w.cell? ⟨17, 0, none⟩ = some (.iface 137 (.pointer (some (a 16)))) ∧
    w.cell? ⟨7, 0, none⟩ = some (.iface 137 (.pointer (some (a 17)))) ∧
    w.cell? ⟨18, 0, none⟩ = some (.iface 137 (.pointer (some (a 18)))) ∧
    w.cell? ⟨19, 0, none⟩ = some (.iface 137 (.pointer (some (a 19)))) :=
  ⟨H.var 0 (by decide), H.var 1 (by decide), H.var 2 (by decide), H.var 3 (by decide), H.var 4 (by decide), H.var 5 (by decide), H.var 6 (by decide), H.var 7 (by decide), H.var 8 (by decide), H.var 9 (by decide), H.var 10 (by decide), H.var 11 (by decide), H.var 12 (by decide), H.var 13 (by decide), H.var 14 (by decide), H.var 15 (by decide), H.var 16 (by decide), H.var 17 (by decide), H.var 18 (by decide), H.var 19 (by decide)⟩

def errList (a : Nat → Addr) : Array Value := #[.iface 137 (.pointer (some (a 0))), .iface 137 (.pointer (some (a 1))), .iface 137 (.pointer (some (a 2))), .iface 137 (.pointer (some (a 3))), .iface 137 (.pointer (some (a 4))), .iface 137 (.pointer (some (a 5))), .iface 137 (.pointer (some (a 6))), .iface 137 (.pointer (some (a 7))), .iface 137 (.pointer (some (a 8))), .iface 137 (.pointer (some (a 9))), .iface 137 (.pointer (some (a 10))), .iface 137 (.pointer (some (a 11))), .iface 137 (.pointer (some (a 12))), .iface 137 (.pointer (some (a 13))), .iface 137 (.pointer (some (a 14))), .iface 137 (.pointer (some (a 15))), .iface 137 (.pointer (some (a 16))), .iface 137 (.pointer (some (a 17))), .iface 137 (.pointer (some (a 18))), .iface 137 (.pointer (some (a 19)))]
theorem errList_at (a : Nat → Addr) (m : Nat) (h : m < 20) : (errList a)[m]? = some (.iface 137 (.pointer (some (a m)))) := by
  match m, h with
  | 0, _ => rfl
  | 1, _ => rfl
  | 2, _ => rfl
  | 3, _ => rfl
  | 4, _ => rfl
  | 5, _ => rfl
  | 6, _ => rfl
  | 7, _ => rfl
  | 8, _ => rfl
  | 9, _ => rfl
  | 10, _ => rfl
  | 11, _ => rfl
  | 12, _ => rfl
  | 13, _ => rfl
  | 14, _ => rfl
  | 15, _ => rfl
  | 16, _ => rfl
  | 17, _ => rfl
  | 18, _ => rfl
  | 19, _ => rfl
  | n + 20, h => omega

theorem num_nil (w : World) : Calls Tryd.prog 18 #[.nilIface] w fun e w' => e = .returned (.int .i64 0) ∧ w = w' := by
  go_enter Tryd.func18, Tryd.ntmps18
  go_wp2_with fail
  go_ret
  exact ⟨rfl, rfl⟩

set_option maxRecDepth 100000 in
set_option maxHeartbeats 1000000 in
theorem num_err (i : Nat) (hi : i < 20) (a : Nat → Addr) (w : World) (H : Errs 137 errGs w a) :
    Calls Tryd.prog 18 #[.iface 137 (.pointer (some (a i)))] w fun e w' => e = .returned (.int .i64 ((i + 1 : Nat) : Int)) ∧ Below w.heap.size w w' := by
  obtain ⟨g0, g1, g2, g3, g4, g5, g6, g7, g8, g9, g10, g11, g12, g13, g14, g15, g16, g17, g18, g19⟩ := num_cells H
  have H := Lib.hid H
  go_enter Tryd.func18, Tryd.ntmps18
  go_wp2_with fail
  obtain ⟨w1, hw1⟩ : ∃ w1, w1 = w.alloc (Obj.cells (errList a) 50) := ⟨_, rfl⟩
  have hcl : ∀ m, m < 20 → w1.cell? ⟨w.heap.size, m, none⟩ = some (.iface 137 (.pointer (some (a m)))) := by
    intro m hm
    rw [hw1, cell_of_block (heap_alloc_new w _)]
    exact errList_at a m hm
  have hb1 : Below w.heap.size w w1 := by rw [hw1]; exact (Below.refl _ _).alloc (Nat.le_refl _) _
  have H1 := Lib.hid (H.out.below hb1)
  have hcl := Lib.hid hcl
  unfold errList at hw1
  rw [← hw1]
  clear hw1 H
  clear g0 g1 g2 g3 g4 g5 g6 g7 g8 g9 g10 g11 g12 g13 g14 g15 g16 g17 g18 g19
  go_loop [31] (fun j => ∃ m : Nat, m ≤ i ∧ j = .int .i64 m) (fun j => i - (intOf j).toNat)
  case atStart => exact ⟨0, Nat.zero_le _, rfl⟩
  case round =>
    obtain ⟨m, hm, rfl⟩ := hrel
    have hc := hcl.out m (by omega)
    by_cases hlt : m < i
    · obtain ⟨c1, t1, o1⟩ := H1.out.obj i hi
      obtain ⟨c2, t2, o2⟩ := H1.out.obj m (by show m < 20; omega)
      have hne : a i ≠ a m := fun e => by have := H1.out.inj' (by decide) i m hi (by show m < 20; omega) e; omega
      have o1 := Lib.hid o1
      have o2 := Lib.hid o2
      have hne := Lib.hid hne
      go_wp2_with fail
      refine (is_other (a i) (a m) c1 c2 t1 t2 _ hne.out o1.out o2.out).mono ?_
      rintro e w2 ⟨rfl, rfl⟩
      go_wp2_with fail
      exact ⟨⟨m + 1, by omega, by go_num⟩, by simp [intOf]; omega⟩
    · obtain rfl : m = i := by omega
      go_wp2_with fail
      refine (is_same (a m) _).mono ?_
      rintro e w2 ⟨rfl, rfl⟩
      go_wp2_with fail
      go_ret
      exact ⟨rfl, hb1⟩

end Go.Proofs.YtndgacjfkoliaaaDoor
