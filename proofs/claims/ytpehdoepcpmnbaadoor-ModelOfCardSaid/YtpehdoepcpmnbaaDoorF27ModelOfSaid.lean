/- Num, WrapIs, NumW, ParOps. -/
import Derived.Test.YtpehdoepcpmnbaaDoorF26ModelOfSaid
import Derived.Test.YtpehdoepcpmnbaaDoorF21ModelOfSaid
import Derived.Outline
import Derived.Test.YtpehdoepcpmnbaaDoorF22ModelOfSaid
import Derived.Test.YtpehdoepcpmnbaaDoorF24ModelOfSaid
/- baileenum.Num by its contracts: the number of a sentinel, and of nil. -/
namespace Go.Proofs.YtpehdoepcpmnbaaDoor
open Go.RowKit

/-- The variables of package api's errors, in the document's order. -/
def errGs : List Nat := [8, 8, 8, 11, 8, 1, 6, 0, 8, 2, 4, 3, 5, 8, 8, 8, 8, 7, 8, 8]

/-- The walk of Num's list: the twenty cells. -/
theorem num_cells {w : World} {a : Nat → Addr} (H : Errs 177 errGs w a) :
    w.cell? ⟨8, 0, none⟩ = some (.iface 177 (.pointer (some (a 0)))) ∧
    True ∧
    True ∧
    w.cell? ⟨11, 0, none⟩ = some (.iface 177 (.pointer (some (a 3)))) ∧
    True ∧
    w.cell? ⟨1, 0, none⟩ = some (.iface 177 (.pointer (some (a 5)))) ∧
    w.cell? ⟨6, 0, none⟩ = some (.iface 177 (.pointer (some (a 6)))) ∧
    w.cell? ⟨0, 0, none⟩ = some (.iface 177 (.pointer (some (a 7)))) ∧
    True ∧
    w.cell? ⟨2, 0, none⟩ = some (.iface 177 (.pointer (some (a 9)))) ∧
    w.cell? ⟨4, 0, none⟩ = some (.iface 177 (.pointer (some (a 10)))) ∧
    w.cell? ⟨3, 0, none⟩ = some (.iface 177 (.pointer (some (a 11)))) ∧
    w.cell? ⟨5, 0, none⟩ = some (.iface 177 (.pointer (some (a 12)))) ∧
    True ∧
    True ∧
    True ∧
    True ∧
    w.cell? ⟨7, 0, none⟩ = some (.iface 177 (.pointer (some (a 17)))) ∧
    True ∧
    True :=
  ⟨H.var 0 (by decide), trivial, trivial, H.var 3 (by decide), trivial, H.var 5 (by decide), H.var 6 (by decide), H.var 7 (by decide), trivial, H.var 9 (by decide), H.var 10 (by decide), H.var 11 (by decide), H.var 12 (by decide), trivial, trivial, trivial, trivial, H.var 17 (by decide), trivial, trivial⟩

def errList (a : Nat → Addr) : Array Value := #[.iface 177 (.pointer (some (a 0))), .iface 177 (.pointer (some (a 1))), .iface 177 (.pointer (some (a 2))), .iface 177 (.pointer (some (a 3))), .iface 177 (.pointer (some (a 4))), .iface 177 (.pointer (some (a 5))), .iface 177 (.pointer (some (a 6))), .iface 177 (.pointer (some (a 7))), .iface 177 (.pointer (some (a 8))), .iface 177 (.pointer (some (a 9))), .iface 177 (.pointer (some (a 10))), .iface 177 (.pointer (some (a 11))), .iface 177 (.pointer (some (a 12))), .iface 177 (.pointer (some (a 13))), .iface 177 (.pointer (some (a 14))), .iface 177 (.pointer (some (a 15))), .iface 177 (.pointer (some (a 16))), .iface 177 (.pointer (some (a 17))), .iface 177 (.pointer (some (a 18))), .iface 177 (.pointer (some (a 19)))]
theorem errList_at (a : Nat → Addr) (m : Nat) (h : m < 20) : (errList a)[m]? = some (.iface 177 (.pointer (some (a m)))) := by
  match m, h with
  | 0, _ => rfl
  | 1, _ => rfl
  | 2, _ => rfl
  | 3, _ => rfl
  | 4, _ => rfl
  | 5, _ => rfl
  | 6, _ => rfl
  | 7, _ => rfl
  | 8, _ => rfl
  | 9, _ => rfl
  | 10, _ => rfl
  | 11, _ => rfl
  | 12, _ => rfl
  | 13, _ => rfl
  | 14, _ => rfl
  | 15, _ => rfl
  | 16, _ => rfl
  | 17, _ => rfl
  | 18, _ => rfl
  | 19, _ => rfl
  | n + 20, h => omega

theorem num_nil (w : World) : Calls Tryd.prog 24 #[.nilIface] w fun e w' => e = .returned (.int .i64 0) ∧ w = w' := by
  go_enter Tryd.func24, Tryd.ntmps24
  go_wp2_with fail
  go_ret
  exact ⟨rfl, rfl⟩

end Go.Proofs.YtpehdoepcpmnbaaDoor
/- errors.Is where a *params.Wrong wraps a sentinel (after the kit's worked text SentryIs, turned to this seat); baileenum.Num of such an error. -/
namespace Go.Proofs.YtpehdoepcpmnbaaDoor
open Go.RowKit Go.Extern.Stop Go.Stop Go.Extern

theorem Tryd.noIsW (v : Value) (xT : TypeId) (w : World) : (Instr.typeAssert (.iface 126 v) xT 157 true).run Tryd.prog w = .ok (.tuple #[.nilIface, .bool false]) w := run_typeAssert_lacksB Tryd.underlying157 (by kernel_rfl) (by kernel_rfl) v xT w
theorem Tryd.hasUnwrapW (v : Value) (xT : TypeId) (w : World) : (Instr.typeAssert (.iface 126 v) xT 160 true).run Tryd.prog w = .ok (.tuple #[.iface 126 v, .bool true]) w := run_typeAssert_hasB Tryd.underlying160 (by kernel_rfl) v xT w
theorem Tryd.methodUnwrap (v : Value) (w : World) : (Go.method 316 126 v "Unwrap").run Tryd.prog w = .ok (106, v) w := by kernel_rfl

/-- errors.Is(e, x), e a *fmt.wrapError that wraps x itself: one Unwrap, then equal. -/
theorem is_wrap_same (pb po : Nat) (b : Addr) (w : World) (h1 : w.cell? ⟨pb, po + 2, none⟩ = some (.iface 177 (.pointer (some b)))) :
    Calls Tryd.prog 46 #[.iface 126 (.pointer (some ⟨pb, po, none⟩)), .iface 177 (.pointer (some b))] w fun e w' => e = .returned (.bool true) ∧ w = w' := by
  obtain ⟨i, hi, hcmp⟩ := Option.map_eq_some_iff.1 Tryd.isComp
  obtain ⟨j, hj, hjs⟩ := Option.map_eq_some_iff.1 Tryd.isSize
  have h8 := @run_callFunc_extern Tryd.prog 61 _ Extern.ReflectliteType.typeOf Tryd.func61 (by kernel_rfl) (by kernel_rfl) (by kernel_rfl) (by kernel_rfl)
  have h32 := @run_callFunc_extern Tryd.prog 110 _ cmpExt Tryd.func110 (by kernel_rfl) (by kernel_rfl) (by kernel_rfl) (by kernel_rfl)
  have tT := Tryd.isTypeOf
  have cT := Tryd.isComparable
  have mR := Tryd.isMethodComparable
  have nE := Tryd.noIsE
  have uE := Tryd.noUnwrapE
  have vE := Tryd.noUnwrapsE
  have nW := Tryd.noIsW
  have uW := Tryd.hasUnwrapW
  have mU := Tryd.methodUnwrap
  have heq := run_eql_iface_ptr_same (P := Tryd.prog) w b Tryd.underlying61 Tryd.underlying177 hi hcmp hj
  have hty := run_eql_iface_types (P := Tryd.prog) 126 177 (.pointer (some ⟨pb, po, none⟩)) (.pointer (some b)) Tryd.underlying61 (by decide) w
  go_enter Tryd.func46, Tryd.ntmps46
  go_wp2
  refine wp_loop_rounds 2 ?_
  rw [rounds_succ]
  go_wp2
  rw [rounds_succ]
  go_wp2
  go_ret
  exact ⟨rfl, rfl⟩

/-- errors.Is(e, x), e a *fmt.wrapError that wraps another error of errors.New's make. -/
theorem is_wrap_other (pb po : Nat) (b a : Addr) (ca cb : Array Value) (ta tb : TypeId) (w : World) (h1 : w.cell? ⟨pb, po + 2, none⟩ = some (.iface 177 (.pointer (some a)))) (hne : a ≠ b) (ha : w.heap[a.block]? = some (.cells ca ta (0, 0))) (hb : w.heap[b.block]? = some (.cells cb tb (0, 0))) :
    Calls Tryd.prog 46 #[.iface 126 (.pointer (some ⟨pb, po, none⟩)), .iface 177 (.pointer (some b))] w fun e w' => e = .returned (.bool false) ∧ w = w' := by
  obtain ⟨i, hi, hcmp⟩ := Option.map_eq_some_iff.1 Tryd.isComp
  obtain ⟨j, hj, hjs⟩ := Option.map_eq_some_iff.1 Tryd.isSize
  have h8 := @run_callFunc_extern Tryd.prog 61 _ Extern.ReflectliteType.typeOf Tryd.func61 (by kernel_rfl) (by kernel_rfl) (by kernel_rfl) (by kernel_rfl)
  have h32 := @run_callFunc_extern Tryd.prog 110 _ cmpExt Tryd.func110 (by kernel_rfl) (by kernel_rfl) (by kernel_rfl) (by kernel_rfl)
  have tT := Tryd.isTypeOf
  have cT := Tryd.isComparable
  have mR := Tryd.isMethodComparable
  have nE := Tryd.noIsE
  have uE := Tryd.noUnwrapE
  have vE := Tryd.noUnwrapsE
  have nW := Tryd.noIsW
  have uW := Tryd.hasUnwrapW
  have mU := Tryd.methodUnwrap
  have heq := run_eql_iface_ptr_other (P := Tryd.prog) w Tryd.underlying61 Tryd.underlying177 hi hcmp hj (by rw [hjs]; decide) hne ha hb
  have hty := run_eql_iface_types (P := Tryd.prog) 126 177 (.pointer (some ⟨pb, po, none⟩)) (.pointer (some b)) Tryd.underlying61 (by decide) w
  go_enter Tryd.func46, Tryd.ntmps46
  go_wp2
  refine wp_loop_rounds 2 ?_
  rw [rounds_succ]
  go_wp2
  rw [rounds_succ]
  go_wp2
  go_ret
  exact ⟨rfl, rfl⟩


end Go.Proofs.YtpehdoepcpmnbaaDoor
/- baileenum.Num of a *params.Wrong. -/
namespace Go.Proofs.YtpehdoepcpmnbaaDoor
open Go.RowKit

end Go.Proofs.YtpehdoepcpmnbaaDoor
/- Walks over params.Plain, Stored, Window, Budget, Bytes, Field; the reference's Stored, Bytes. -/
namespace Go.Proofs.YtpehdoepcpmnbaaDoor
open Go.RowKit


/-- The three sentinels of params out of the twenty. -/
def pz (ea : Nat → Addr) (j : Nat) : Addr := ea (if j = 0 then 0 else if j = 1 then 7 else 17)
theorem par_of {w : World} {ea : Nat → Addr} (H : Errs 177 errGs w ea) : ParErrs w (pz ea) := by
  refine ⟨fun i hi => ?_, fun i hi => ?_, fun i j hi hj e => ?_⟩
  · rcases (show i = 0 ∨ i = 1 ∨ i = 2 from by simp [parGs] at hi; omega) with rfl | rfl | rfl
    · exact H.var 0 (by decide)
    · exact H.var 7 (by decide)
    · exact H.var 17 (by decide)
  · rcases (show i = 0 ∨ i = 1 ∨ i = 2 from by simp [parGs] at hi; omega) with rfl | rfl | rfl
    · exact H.obj 0 (by decide)
    · exact H.obj 7 (by decide)
    · exact H.obj 17 (by decide)
  · have hi' : i = 0 ∨ i = 1 ∨ i = 2 := by simp [parGs] at hi; omega
    have hj' : j = 0 ∨ j = 1 ∨ j = 2 := by simp [parGs] at hj; omega
    have h3 := H.inj (if i = 0 then 0 else if i = 1 then 7 else 17) (if j = 0 then 0 else if j = 1 then 7 else 17) (by show _ < 20; split <;> (try split) <;> omega) (by show _ < 20; split <;> (try split) <;> omega) e
    rcases hi' with rfl | rfl | rfl <;> rcases hj' with rfl | rfl | rfl <;> first | rfl | exact absurd h3 (by decide)

theorem badAt_ok {s n k d t r : Int} (h : badAt s n k d t r = none) : ParOk s n k d t r := by
  rcases badAt_cases s n k d t r with ⟨_, h'⟩ | ⟨_, _, h'⟩ | ⟨_, _, _, h'⟩ | ⟨_, _, _, _, h'⟩ | ⟨_, _, _, _, _, h'⟩ | ⟨_, _, _, _, _, _, h'⟩ | ⟨h1, h2, h3, h4, h5, h6, _⟩
  all_goals first | (rw [h] at h'; cases h') | exact ⟨h1, h2, h3, h4, h5, h6⟩
theorem badAt_lt {s n k d t r V : Int} {F : ByteArray} {i : Nat} (h : badAt s n k d t r = some (F, V, i)) : i < 20 := by
  rcases badAt_cases s n k d t r with ⟨_, h'⟩ | ⟨_, _, h'⟩ | ⟨_, _, _, h'⟩ | ⟨_, _, _, _, h'⟩ | ⟨_, _, _, _, _, h'⟩ | ⟨_, _, _, _, _, _, h'⟩ | ⟨h1, h2, h3, h4, h5, h6, h'⟩
  all_goals (rw [h] at h'; first | (cases h'; omega) | cases h')

/-- Check of wrong parameters. -/
theorem check_wrong (s n k d t r : Int) (F : ByteArray) (V : Int) (i : Nat) (h : badAt s n k d t r = some (F, V, i)) (hn : -9223372036854775808 ≤ n ∧ n ≤ 9223372036854775807) (ea : Nat → Addr) (w : World) (H : Errs 177 errGs w ea) :
    Calls Tryd.prog 38 #[.agg #[.int .i64 s, .int .i64 n, .int .i64 k, .int .i64 d, .int .i64 t, .int .i64 r]] w fun e w' => ∃ g, e = .returned (.iface 126 (.pointer (some ⟨g, 0, none⟩))) ∧ w.heap.size ≤ g ∧ w'.heap[g]? = some (.cells #[.string F, .int .i64 V, .iface 177 (.pointer (some (ea i)))] 128 (0, 0)) ∧ Below w.heap.size w w' := by
  have hE := par_of H
  have fin : ∀ F' V' i', (Calls Tryd.prog 38 #[parV s n k d t r] w fun e w' => ∃ v, e = .returned v ∧ WrongV w.heap.size w' v F' V' (ea i') ∧ Below w.heap.size w w') → badAt s n k d t r = some (F', V', i') → Calls Tryd.prog 38 #[.agg #[.int .i64 s, .int .i64 n, .int .i64 k, .int .i64 d, .int .i64 t, .int .i64 r]] w fun e w' => ∃ g, e = .returned (.iface 126 (.pointer (some ⟨g, 0, none⟩))) ∧ w.heap.size ≤ g ∧ w'.heap[g]? = some (.cells #[.string F, .int .i64 V, .iface 177 (.pointer (some (ea i)))] 128 (0, 0)) ∧ Below w.heap.size w w' := by
    intro F' V' i' hc h'
    rw [h] at h'
    cases h'
    refine Calls.mono hc ?_
    rintro e w' ⟨v, rfl, ⟨g, rfl, h1, h2⟩, hb⟩
    exact ⟨g, rfl, h1, h2, hb⟩
  rcases badAt_cases s n k d t r with ⟨h1, h'⟩ | ⟨h1, h2, h'⟩ | ⟨h1, h2, h3, h'⟩ | ⟨h1, h2, h3, h4, h'⟩ | ⟨h1, h2, h3, h4, h5, h'⟩ | ⟨h1, h2, h3, h4, h5, h6, h'⟩ | ⟨h1, h2, h3, h4, h5, h6, h'⟩
  · exact fin _ _ _ (check_bad0 s n k d t r h1 (pz ea) w hE hn) h'
  · exact fin _ _ _ (check_bad1 s n k d t r h1 h2 (pz ea) w hE) h'
  · exact fin _ _ _ (check_bad2 s n k d t r h1 h2 h3 (pz ea) w hE) h'
  · exact fin _ _ _ (check_bad3 s n k d t r h1 h2 h3 h4 (pz ea) w hE) h'
  · exact fin _ _ _ (check_bad4 s n k d t r h1 h2 h3 h4 h5 (pz ea) w hE) h'
  · exact fin _ _ _ (check_bad5 s n k d t r h1 h2 h3 h4 h5 h6 (pz ea) w hE) h'
  · rw [h] at h'; cases h'

/-- What is told of an answer that is a wrong field's error. -/
def WrongAns (base : Nat) (w : World) (F : ByteArray) (V : Int) (x : Addr) (g : Nat) : Prop := base ≤ g ∧ w.heap[g]? = some (.cells #[.string F, .int .i64 V, .iface 177 (.pointer (some x))] 128 (0, 0))
theorem WrongAns.below {base : Nat} {w w' : World} {F : ByteArray} {V : Int} {x : Addr} {g : Nat} (h : WrongAns base w F V x g) (hb : Below w.heap.size w w') : WrongAns base w' F V x g := ⟨h.1, (hb.block g (block_lt h.2)).trans h.2⟩

section
variable (s n k d t r : Int) (F : ByteArray) (V : Int) (i : Nat) (ea : Nat → Addr) (w : World)

end
end Go.Proofs.YtpehdoepcpmnbaaDoor
