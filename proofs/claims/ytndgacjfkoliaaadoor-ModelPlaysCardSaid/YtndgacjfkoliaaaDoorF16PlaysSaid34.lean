/- WrapIs, NumW, ParOps. -/
import Derived.Test.YtndgacjfkoliaaaDoorF15PlaysSaid34
import Derived.Test.YtndgacjfkoliaaaDoorF11PlaysSaid34
import Derived.Test.YtndgacjfkoliaaaDoorF13PlaysSaid34
import Derived.Test.YtndgacjfkoliaaaDoorF14PlaysSaid34
/- errors.Is where a *params.Wrong wraps a sentinel (after the kit's worked text SentryIs, turned to this seat); baileenum.Num of such an error. -/
namespace Go.Proofs.YtndgacjfkoliaaaDoor
open Go.RowKit Go.Extern.Stop Go.Stop Go.Extern

theorem Tryd.noIsW (v : Value) (xT : TypeId) (w : World) : (Instr.typeAssert (.iface 90 v) xT 117 true).run Tryd.prog w = .ok (.tuple #[.nilIface, .bool false]) w := run_typeAssert_lacksB Tryd.underlying117 (by kernel_rfl) (by kernel_rfl) v xT w
theorem Tryd.hasUnwrapW (v : Value) (xT : TypeId) (w : World) : (Instr.typeAssert (.iface 90 v) xT 120 true).run Tryd.prog w = .ok (.tuple #[.iface 90 v, .bool true]) w := run_typeAssert_hasB Tryd.underlying120 (by kernel_rfl) v xT w
theorem Tryd.methodUnwrap (v : Value) (w : World) : (Go.method 275 90 v "Unwrap").run Tryd.prog w = .ok (82, v) w := by kernel_rfl

/-- errors.Is(e, x), e a *fmt.wrapError that wraps x itself: one Unwrap, then equal. -/
theorem is_wrap_same (pb po : Nat) (b : Addr) (w : World) (h1 : w.cell? ⟨pb, po + 2, none⟩ = some (.iface 137 (.pointer (some b)))) :
    Calls Tryd.prog 35 #[.iface 90 (.pointer (some ⟨pb, po, none⟩)), .iface 137 (.pointer (some b))] w fun e w' => e = .returned (.bool true) ∧ w = w' := by
  obtain ⟨i, hi, hcmp⟩ := Option.map_eq_some_iff.1 Tryd.isComp
  obtain ⟨j, hj, hjs⟩ := Option.map_eq_some_iff.1 Tryd.isSize
  have h8 := @run_callFunc_extern Tryd.prog 42 _ Extern.ReflectliteType.typeOf Tryd.func42 (by kernel_rfl) (by kernel_rfl) (by kernel_rfl) (by kernel_rfl)
  have h32 := @run_callFunc_extern Tryd.prog 86 _ cmpExt Tryd.func86 (by kernel_rfl) (by kernel_rfl) (by kernel_rfl) (by kernel_rfl)
  have tT := Tryd.isTypeOf
  have cT := Tryd.isComparable
  have mR := Tryd.isMethodComparable
  have nE := Tryd.noIsE
  have uE := Tryd.noUnwrapE
  have vE := Tryd.noUnwrapsE
  have nW := Tryd.noIsW
  have uW := Tryd.hasUnwrapW
  have mU := Tryd.methodUnwrap
  have heq := run_eql_iface_ptr_same (P := Tryd.prog) w b Tryd.underlying50 Tryd.underlying137 hi hcmp hj
  have hty := run_eql_iface_types (P := Tryd.prog) 90 137 (.pointer (some ⟨pb, po, none⟩)) (.pointer (some b)) Tryd.underlying50 (by decide) w
  go_enter Tryd.func35, Tryd.ntmps35
  go_wp2
  refine wp_loop_rounds 2 ?_
  rw [rounds_succ]
  go_wp2
  rw [rounds_succ]
  go_wp2
  go_ret
  exact ⟨rfl, rfl⟩

/-- errors.Is(e, x), e a *fmt.wrapError that wraps another error of errors.New's make. -/
theorem is_wrap_other (pb po : Nat) (b a : Addr) (ca cb : Array Value) (ta tb : TypeId) (w : World) (h1 : w.cell? ⟨pb, po + 2, none⟩ = some (.iface 137 (.pointer (some a)))) (hne : a ≠ b) (ha : w.heap[a.block]? = some (.cells ca ta (0, 0))) (hb : w.heap[b.block]? = some (.cells cb tb (0, 0))) :
    Calls Tryd.prog 35 #[.iface 90 (.pointer (some ⟨pb, po, none⟩)), .iface 137 (.pointer (some b))] w fun e w' => e = .returned (.bool false) ∧ w = w' := by
  obtain ⟨i, hi, hcmp⟩ := Option.map_eq_some_iff.1 Tryd.isComp
  obtain ⟨j, hj, hjs⟩ := Option.map_eq_some_iff.1 Tryd.isSize
  have h8 := @run_callFunc_extern Tryd.prog 42 _ Extern.ReflectliteType.typeOf Tryd.func42 (by kernel_rfl) (by kernel_rfl) (by kernel_rfl) (by kernel_rfl)
  have h32 := @run_callFunc_extern Tryd.prog 86 _ cmpExt Tryd.func86 (by kernel_rfl) (by kernel_rfl) (by kernel_rfl) (by kernel_rfl)
  have tT := Tryd.isTypeOf
  have cT := Tryd.isComparable
  have mR := Tryd.isMethodComparable
  have nE := Tryd.noIsE
  have uE := Tryd.noUnwrapE
  have vE := Tryd.noUnwrapsE
  have nW := Tryd.noIsW
  have uW := Tryd.hasUnwrapW
  have mU := Tryd.methodUnwrap
  have heq := run_eql_iface_ptr_other (P := Tryd.prog) w Tryd.underlying50 Tryd.underlying137 hi hcmp hj (by rw [hjs]; decide) hne ha hb
  have hty := run_eql_iface_types (P := Tryd.prog) 90 137 (.pointer (some ⟨pb, po, none⟩)) (.pointer (some b)) Tryd.underlying50 (by decide) w
  go_enter Tryd.func35, Tryd.ntmps35
  go_wp2
  refine wp_loop_rounds 2 ?_
  rw [rounds_succ]
  go_wp2
  rw [rounds_succ]
  go_wp2
  go_ret
  exact ⟨rfl, rfl⟩


end Go.Proofs.YtndgacjfkoliaaaDoor
/- baileenum.Num of a *params.Wrong. -/
namespace Go.Proofs.YtndgacjfkoliaaaDoor
open Go.RowKit

set_option maxRecDepth 100000 in
set_option maxHeartbeats 1000000 in
theorem num_wrap (g : Nat) (F : ByteArray) (V : Int) (i : Nat) (hi : i < 20) (a : Nat → Addr) (w : World) (H : Errs 137 errGs w a) (hg : w.heap[g]? = some (.cells #[.string F, .int .i64 V, .iface 137 (.pointer (some (a i)))] 92 (0, 0))) :
    Calls Tryd.prog 18 #[.iface 90 (.pointer (some ⟨g, 0, none⟩))] w fun e w' => e = .returned (.int .i64 ((i + 1 : Nat) : Int)) ∧ Below w.heap.size w w' := by
  obtain ⟨g0, g1, g2, g3, g4, g5, g6, g7, g8, g9, g10, g11, g12, g13, g14, g15, g16, g17, g18, g19⟩ := num_cells H
  have H := Lib.hid H
  go_enter Tryd.func18, Tryd.ntmps18
  go_wp2_with fail
  obtain ⟨w1, hw1⟩ : ∃ w1, w1 = w.alloc (Obj.cells (errList a) 50) := ⟨_, rfl⟩
  have hcl : ∀ m, m < 20 → w1.cell? ⟨w.heap.size, m, none⟩ = some (.iface 137 (.pointer (some (a m)))) := by
    intro m hm
    rw [hw1, cell_of_block (heap_alloc_new w _)]
    exact errList_at a m hm
  have hb1 : Below w.heap.size w w1 := by rw [hw1]; exact (Below.refl _ _).alloc (Nat.le_refl _) _
  have H1 := Lib.hid (H.out.below hb1)
  have hw := Lib.hid (cell_of_block ((hb1.block g (block_lt hg)).trans hg) 2)
  clear hg
  have hcl := Lib.hid hcl
  unfold errList at hw1
  rw [← hw1]
  clear hw1 H
  clear g0 g1 g2 g3 g4 g5 g6 g7 g8 g9 g10 g11 g12 g13 g14 g15 g16 g17 g18 g19
  go_loop [31] (fun j => ∃ m : Nat, m ≤ i ∧ j = .int .i64 m) (fun j => i - (intOf j).toNat)
  case atStart => exact ⟨0, Nat.zero_le _, rfl⟩
  case round =>
    obtain ⟨m, hm, rfl⟩ := hrel
    have hc := hcl.out m (by omega)
    by_cases hlt : m < i
    · obtain ⟨c1, t1, o1⟩ := H1.out.obj i hi
      obtain ⟨c2, t2, o2⟩ := H1.out.obj m (by show m < 20; omega)
      have hne : a i ≠ a m := fun e => by have := H1.out.inj' (by decide) i m hi (by show m < 20; omega) e; omega
      have o1 := Lib.hid o1
      have o2 := Lib.hid o2
      have hne := Lib.hid hne
      go_wp2_with fail
      refine (is_wrap_other g 0 (a m) (a i) c1 c2 t1 t2 _ hw.out hne.out o1.out o2.out).mono ?_
      rintro e w2 ⟨rfl, rfl⟩
      go_wp2_with fail
      exact ⟨⟨m + 1, by omega, by go_num⟩, by simp [intOf]; omega⟩
    · obtain rfl : m = i := by omega
      go_wp2_with fail
      refine (is_wrap_same g 0 (a m) _ hw.out).mono ?_
      rintro e w2 ⟨rfl, rfl⟩
      go_wp2_with fail
      go_ret
      exact ⟨rfl, hb1⟩


end Go.Proofs.YtndgacjfkoliaaaDoor
/- Walks over params.Plain, Stored, Window, Budget, Bytes, Field; the reference's Stored, Bytes. -/
namespace Go.Proofs.YtndgacjfkoliaaaDoor
open Go.RowKit


/-- The three sentinels of params out of the twenty. -/
def pz (ea : Nat → Addr) (j : Nat) : Addr := ea (if j = 0 then 0 else if j = 1 then 7 else 17)
theorem par_of {w : World} {ea : Nat → Addr} (H : Errs 137 errGs w ea) : ParErrs w (pz ea) := by
  refine ⟨fun i hi => ?_, fun i hi => ?_, fun i j hi hj e => ?_⟩
  · rcases (show i = 0 ∨ i = 1 ∨ i = 2 from by simp [parGs] at hi; omega) with rfl | rfl | rfl
    · exact H.var 0 (by decide)
    · exact H.var 7 (by decide)
    · exact H.var 17 (by decide)
  · rcases (show i = 0 ∨ i = 1 ∨ i = 2 from by simp [parGs] at hi; omega) with rfl | rfl | rfl
    · exact H.obj 0 (by decide)
    · exact H.obj 7 (by decide)
    · exact H.obj 17 (by decide)
  · have hi' : i = 0 ∨ i = 1 ∨ i = 2 := by simp [parGs] at hi; omega
    have hj' : j = 0 ∨ j = 1 ∨ j = 2 := by simp [parGs] at hj; omega
    have h3 := H.inj (if i = 0 then 0 else if i = 1 then 7 else 17) (if j = 0 then 0 else if j = 1 then 7 else 17) (by show _ < 20; split <;> (try split) <;> omega) (by show _ < 20; split <;> (try split) <;> omega) e
    rcases hi' with rfl | rfl | rfl <;> rcases hj' with rfl | rfl | rfl <;> first | rfl | exact absurd h3 (by decide)

theorem badAt_ok {s n k d t r : Int} (h : badAt s n k d t r = none) : ParOk s n k d t r := by
  rcases badAt_cases s n k d t r with ⟨_, h'⟩ | ⟨_, _, h'⟩ | ⟨_, _, _, h'⟩ | ⟨_, _, _, _, h'⟩ | ⟨_, _, _, _, _, h'⟩ | ⟨_, _, _, _, _, _, h'⟩ | ⟨h1, h2, h3, h4, h5, h6, _⟩
  all_goals first | (rw [h] at h'; cases h') | exact ⟨h1, h2, h3, h4, h5, h6⟩
theorem badAt_lt {s n k d t r V : Int} {F : ByteArray} {i : Nat} (h : badAt s n k d t r = some (F, V, i)) : i < 20 := by
  rcases badAt_cases s n k d t r with ⟨_, h'⟩ | ⟨_, _, h'⟩ | ⟨_, _, _, h'⟩ | ⟨_, _, _, _, h'⟩ | ⟨_, _, _, _, _, h'⟩ | ⟨_, _, _, _, _, _, h'⟩ | ⟨h1, h2, h3, h4, h5, h6, h'⟩
  all_goals (rw [h] at h'; first | (cases h'; omega) | cases h')

/-- Check of wrong parameters. -/
theorem check_wrong (s n k d t r : Int) (F : ByteArray) (V : Int) (i : Nat) (h : badAt s n k d t r = some (F, V, i)) (hn : -9223372036854775808 ≤ n ∧ n ≤ 9223372036854775807) (ea : Nat → Addr) (w : World) (H : Errs 137 errGs w ea) :
    Calls Tryd.prog 27 #[.agg #[.int .i64 s, .int .i64 n, .int .i64 k, .int .i64 d, .int .i64 t, .int .i64 r]] w fun e w' => ∃ g, e = .returned (.iface 90 (.pointer (some ⟨g, 0, none⟩))) ∧ w.heap.size ≤ g ∧ w'.heap[g]? = some (.cells #[.string F, .int .i64 V, .iface 137 (.pointer (some (ea i)))] 92 (0, 0)) ∧ Below w.heap.size w w' := by
  have hE := par_of H
  have fin : ∀ F' V' i', (Calls Tryd.prog 27 #[parV s n k d t r] w fun e w' => ∃ v, e = .returned v ∧ WrongV w.heap.size w' v F' V' (ea i') ∧ Below w.heap.size w w') → badAt s n k d t r = some (F', V', i') → Calls Tryd.prog 27 #[.agg #[.int .i64 s, .int .i64 n, .int .i64 k, .int .i64 d, .int .i64 t, .int .i64 r]] w fun e w' => ∃ g, e = .returned (.iface 90 (.pointer (some ⟨g, 0, none⟩))) ∧ w.heap.size ≤ g ∧ w'.heap[g]? = some (.cells #[.string F, .int .i64 V, .iface 137 (.pointer (some (ea i)))] 92 (0, 0)) ∧ Below w.heap.size w w' := by
    intro F' V' i' hc h'
    rw [h] at h'
    cases h'
    refine Calls.mono hc ?_
    rintro e w' ⟨v, rfl, ⟨g, rfl, h1, h2⟩, hb⟩
    exact ⟨g, rfl, h1, h2, hb⟩
  rcases badAt_cases s n k d t r with ⟨h1, h'⟩ | ⟨h1, h2, h'⟩ | ⟨h1, h2, h3, h'⟩ | ⟨h1, h2, h3, h4, h'⟩ | ⟨h1, h2, h3, h4, h5, h'⟩ | ⟨h1, h2, h3, h4, h5, h6, h'⟩ | ⟨h1, h2, h3, h4, h5, h6, h'⟩
  · exact fin _ _ _ (check_bad0 s n k d t r h1 (pz ea) w hE hn) h'
  · exact fin _ _ _ (check_bad1 s n k d t r h1 h2 (pz ea) w hE) h'
  · exact fin _ _ _ (check_bad2 s n k d t r h1 h2 h3 (pz ea) w hE) h'
  · exact fin _ _ _ (check_bad3 s n k d t r h1 h2 h3 h4 (pz ea) w hE) h'
  · exact fin _ _ _ (check_bad4 s n k d t r h1 h2 h3 h4 h5 (pz ea) w hE) h'
  · exact fin _ _ _ (check_bad5 s n k d t r h1 h2 h3 h4 h5 h6 (pz ea) w hE) h'
  · rw [h] at h'; cases h'

/-- What is told of an answer that is a wrong field's error. -/
def WrongAns (base : Nat) (w : World) (F : ByteArray) (V : Int) (x : Addr) (g : Nat) : Prop := base ≤ g ∧ w.heap[g]? = some (.cells #[.string F, .int .i64 V, .iface 137 (.pointer (some x))] 92 (0, 0))
theorem WrongAns.below {base : Nat} {w w' : World} {F : ByteArray} {V : Int} {x : Addr} {g : Nat} (h : WrongAns base w F V x g) (hb : Below w.heap.size w w') : WrongAns base w' F V x g := ⟨h.1, (hb.block g (block_lt h.2)).trans h.2⟩

section
variable (s n k d t r : Int) (F : ByteArray) (V : Int) (i : Nat) (ea : Nat → Addr) (w : World)

end
end Go.Proofs.YtndgacjfkoliaaaDoor
