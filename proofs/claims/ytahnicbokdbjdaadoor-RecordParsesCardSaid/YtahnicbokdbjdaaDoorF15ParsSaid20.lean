/- Ref15, Is, Num. -/
import Derived.Test.YtahnicbokdbjdaaDoorF14ParsSaid20
import Derived.Test.YtahnicbokdbjdaaDoorF13ParsSaid20
import Derived.Test.YtahnicbokdbjdaaDoorF3ParsSaid20
import Derived.Test.YtahnicbokdbjdaaDoorRows
import Derived.Test.YtahnicbokdbjdaaDoorF1ParsSaid20
import Derived.LaidEql
import Derived.Stop.Asserts
import Derived.RowKitTokens
import Derived.Test.YtahnicbokdbjdaaDoorF12ParsSaid20
import Derived.Outline
/- Which field of parameters isn't right; the walk over the reference's Check. -/
namespace Go.Proofs.YtahnicbokdbjdaaDoor
open Go.RowKit


/-- The first field that isn't right: its name, its value, its error's place among package api's errors. -/
def badAt (s n k d t r : Int) : Option (ByteArray × Int × Nat) :=
  if s < 0 ∨ 2000 < s then some (⟨#[115, 105, 122, 101]⟩, s, 7)
  else if n < 0 ∨ 8 < n then some (⟨#[115, 101, 110, 116, 105, 110, 101, 108, 115]⟩, n, 17)
  else if k < 1 ∨ 12 < k then some (⟨#[115, 112, 111, 116, 115]⟩, k, 0)
  else if d < 1 ∨ 10000 < d then some (⟨#[112, 101, 114, 105, 111, 100]⟩, d, 0)
  else if t < 1 ∨ d < t then some (⟨#[112, 97, 116, 105, 101, 110, 99, 101]⟩, t, 0)
  else if r < 0 ∨ 5 < r then some (⟨#[114, 101, 116, 114, 105, 101, 115]⟩, r, 0)
  else none
/-- The cases. -/
theorem badAt_cases (s n k d t r : Int) :
    ((s < 0 ∨ 2000 < s) ∧ badAt s n k d t r = some (⟨#[115, 105, 122, 101]⟩, s, 7)) ∨
    ((0 ≤ s ∧ s ≤ 2000) ∧ (n < 0 ∨ 8 < n) ∧ badAt s n k d t r = some (⟨#[115, 101, 110, 116, 105, 110, 101, 108, 115]⟩, n, 17)) ∨
    ((0 ≤ s ∧ s ≤ 2000) ∧ (0 ≤ n ∧ n ≤ 8) ∧ (k < 1 ∨ 12 < k) ∧ badAt s n k d t r = some (⟨#[115, 112, 111, 116, 115]⟩, k, 0)) ∨
    ((0 ≤ s ∧ s ≤ 2000) ∧ (0 ≤ n ∧ n ≤ 8) ∧ (1 ≤ k ∧ k ≤ 12) ∧ (d < 1 ∨ 10000 < d) ∧ badAt s n k d t r = some (⟨#[112, 101, 114, 105, 111, 100]⟩, d, 0)) ∨
    ((0 ≤ s ∧ s ≤ 2000) ∧ (0 ≤ n ∧ n ≤ 8) ∧ (1 ≤ k ∧ k ≤ 12) ∧ (1 ≤ d ∧ d ≤ 10000) ∧ (t < 1 ∨ d < t) ∧ badAt s n k d t r = some (⟨#[112, 97, 116, 105, 101, 110, 99, 101]⟩, t, 0)) ∨
    ((0 ≤ s ∧ s ≤ 2000) ∧ (0 ≤ n ∧ n ≤ 8) ∧ (1 ≤ k ∧ k ≤ 12) ∧ (1 ≤ d ∧ d ≤ 10000) ∧ (1 ≤ t ∧ t ≤ d) ∧ (r < 0 ∨ 5 < r) ∧ badAt s n k d t r = some (⟨#[114, 101, 116, 114, 105, 101, 115]⟩, r, 0)) ∨
    ((0 ≤ s ∧ s ≤ 2000) ∧ (0 ≤ n ∧ n ≤ 8) ∧ (1 ≤ k ∧ k ≤ 12) ∧ (1 ≤ d ∧ d ≤ 10000) ∧ (1 ≤ t ∧ t ≤ d) ∧ (0 ≤ r ∧ r ≤ 5) ∧ badAt s n k d t r = none) := by
  unfold badAt
  by_cases h1 : s < 0 ∨ 2000 < s
  · exact .inl ⟨h1, by rw [if_pos h1]⟩
  by_cases h2 : n < 0 ∨ 8 < n
  · exact .inr (.inl ⟨by omega, h2, by rw [if_neg h1, if_pos h2]⟩)
  by_cases h3 : k < 1 ∨ 12 < k
  · exact .inr (.inr (.inl ⟨by omega, by omega, h3, by rw [if_neg h1, if_neg h2, if_pos h3]⟩))
  by_cases h4 : d < 1 ∨ 10000 < d
  · exact .inr (.inr (.inr (.inl ⟨by omega, by omega, by omega, h4, by rw [if_neg h1, if_neg h2, if_neg h3, if_pos h4]⟩)))
  by_cases h5 : t < 1 ∨ d < t
  · exact .inr (.inr (.inr (.inr (.inl ⟨by omega, by omega, by omega, by omega, h5, by rw [if_neg h1, if_neg h2, if_neg h3, if_neg h4, if_pos h5]⟩))))
  by_cases h6 : r < 0 ∨ 5 < r
  · exact .inr (.inr (.inr (.inr (.inr (.inl ⟨by omega, by omega, by omega, by omega, by omega, h6, by rw [if_neg h1, if_neg h2, if_neg h3, if_neg h4, if_neg h5, if_pos h6]⟩)))))
  · exact .inr (.inr (.inr (.inr (.inr (.inr ⟨by omega, by omega, by omega, by omega, by omega, by omega, by rw [if_neg h1, if_neg h2, if_neg h3, if_neg h4, if_neg h5, if_neg h6]⟩)))))

/-- What the reference's Check answers. -/
def rcheckV (b : Option (ByteArray × Int × Nat)) : Value := match b with
  | some (F, V, i) => .tuple #[.string F, .int .i64 V, .int .i64 ((i + 1 : Nat) : Int)]
  | none => .tuple #[.string ⟨#[]⟩, .int .i64 0, .int .i64 0]

set_option maxRecDepth 10000 in
set_option maxHeartbeats 4000000 in
theorem rcheck_any (s n k d t r : Int) (w : World) : Calls Tryd.prog 39 #[.agg #[.int .i64 s, .int .i64 n, .int .i64 k, .int .i64 d, .int .i64 t, .int .i64 r]] w fun e w' => e = .returned (rcheckV (badAt s n k d t r)) ∧ Below w.heap.size w w' := by
  have hb1 := Lib.hid ((Below.refl w.heap.size w).alloc (Nat.le_refl _) (.cells #[.int .i64 s, .int .i64 n, .int .i64 k, .int .i64 d, .int .i64 t, .int .i64 r] 32))
  have hp := Lib.hid (heap_alloc_new w (.cells #[.int .i64 s, .int .i64 n, .int .i64 k, .int .i64 d, .int .i64 t, .int .i64 r] 32))
  rcases badAt_cases s n k d t r with ⟨h1, h⟩ | ⟨h1, h2, h⟩ | ⟨h1, h2, h3, h⟩ | ⟨h1, h2, h3, h4, h⟩ | ⟨h1, h2, h3, h4, h5, h⟩ | ⟨h1, h2, h3, h4, h5, h6, h⟩ | ⟨h1, h2, h3, h4, h5, h6, h⟩
  · rw [h]
    unfold rcheckV
    clear h
    rcases h1 with h1 | h1
    all_goals
      go_enter Tryd.func39, Tryd.ntmps39
      go_wp2_with fail
      go_quiet (fail)
      go_wp2
      go_ret3
      exact ⟨rfl, below_drewN hb1.out _⟩
  · rw [h]
    unfold rcheckV
    clear h
    rcases h2 with h2 | h2
    all_goals
      go_enter Tryd.func39, Tryd.ntmps39
      go_wp2_with fail
      go_quiet (fail)
      go_wp2
      go_ret3
      exact ⟨rfl, below_drewN hb1.out _⟩
  · rw [h]
    unfold rcheckV
    clear h
    have hT := total_bd s h1
    have htot := Lib.hid (fun W => rtotal_some s h1 W)
    generalize totalOf s = T at *
    rcases h3 with h3 | h3
    all_goals
      go_enter Tryd.func39, Tryd.ntmps39
      go_wp2_with fail
      with_reducible refine (htot.out _).mono ?_
      rintro e w1 ⟨rfl, hb2⟩
      replace hp := Lib.hid ((hb2.block _ (by simp)).trans hp.out)
      replace hb1 := Lib.hid (hb1.out.trans (hb2.mono hb1.out.size))
      obtain ⟨c0, c1, c2, c3, c4, c5⟩ := box6 hp.out
      clear hb2 htot
      go_wp2_with fail
      go_quiet (fail)
      go_wp2
      go_ret3
      exact ⟨rfl, below_drewN hb1.out _⟩
  · rw [h]
    unfold rcheckV
    clear h
    have hT := total_bd s h1
    have htot := Lib.hid (fun W => rtotal_some s h1 W)
    generalize totalOf s = T at *
    rcases h4 with h4 | h4
    all_goals
      go_enter Tryd.func39, Tryd.ntmps39
      go_wp2_with fail
      with_reducible refine (htot.out _).mono ?_
      rintro e w1 ⟨rfl, hb2⟩
      replace hp := Lib.hid ((hb2.block _ (by simp)).trans hp.out)
      replace hb1 := Lib.hid (hb1.out.trans (hb2.mono hb1.out.size))
      obtain ⟨c0, c1, c2, c3, c4, c5⟩ := box6 hp.out
      clear hb2 htot
      go_wp2_with fail
      go_quiet (fail)
      go_wp2
      go_ret3
      exact ⟨rfl, below_drewN hb1.out _⟩
  · rw [h]
    unfold rcheckV
    clear h
    have hT := total_bd s h1
    have htot := Lib.hid (fun W => rtotal_some s h1 W)
    generalize totalOf s = T at *
    rcases h5 with h5 | h5
    all_goals
      go_enter Tryd.func39, Tryd.ntmps39
      go_wp2_with fail
      with_reducible refine (htot.out _).mono ?_
      rintro e w1 ⟨rfl, hb2⟩
      replace hp := Lib.hid ((hb2.block _ (by simp)).trans hp.out)
      replace hb1 := Lib.hid (hb1.out.trans (hb2.mono hb1.out.size))
      obtain ⟨c0, c1, c2, c3, c4, c5⟩ := box6 hp.out
      clear hb2 htot
      go_wp2_with fail
      go_quiet (fail)
      go_wp2
      go_ret3
      exact ⟨rfl, below_drewN hb1.out _⟩
  · rw [h]
    unfold rcheckV
    clear h
    have hT := total_bd s h1
    have htot := Lib.hid (fun W => rtotal_some s h1 W)
    generalize totalOf s = T at *
    rcases h6 with h6 | h6
    all_goals
      go_enter Tryd.func39, Tryd.ntmps39
      go_wp2_with fail
      with_reducible refine (htot.out _).mono ?_
      rintro e w1 ⟨rfl, hb2⟩
      replace hp := Lib.hid ((hb2.block _ (by simp)).trans hp.out)
      replace hb1 := Lib.hid (hb1.out.trans (hb2.mono hb1.out.size))
      obtain ⟨c0, c1, c2, c3, c4, c5⟩ := box6 hp.out
      clear hb2 htot
      go_wp2_with fail
      go_quiet (fail)
      go_wp2
      go_ret3
      exact ⟨rfl, below_drewN hb1.out _⟩
  · rw [h]
    unfold rcheckV
    clear h
    have hT := total_bd s h1
    have htot := Lib.hid (fun W => rtotal_some s h1 W)
    generalize totalOf s = T at *
    go_enter Tryd.func39, Tryd.ntmps39
    go_wp2_with fail
    with_reducible refine (htot.out _).mono ?_
    rintro e w1 ⟨rfl, hb2⟩
    replace hp := Lib.hid ((hb2.block _ (by simp)).trans hp.out)
    replace hb1 := Lib.hid (hb1.out.trans (hb2.mono hb1.out.size))
    obtain ⟨c0, c1, c2, c3, c4, c5⟩ := box6 hp.out
    clear hb2 htot
    go_wp2_with fail
    go_ret3
    exact ⟨rfl, hb1.out⟩

end Go.Proofs.YtahnicbokdbjdaaDoor
/- errors.Is by its contracts, where the target is a sentinel of errors.New's make (after the kit's worked text SentryIs, turned to this seat). -/
namespace Go.Proofs.YtahnicbokdbjdaaDoor
open Go.RowKit Go.Extern.Stop Go.Stop Go.Extern

/-! ### CLOSED FACTS: what 'reflectlite.TypeOf(target).Comparable()' gives at such a target -/
theorem Tryd.isTypeOf (v : Value) (w : World) : (Extern.ReflectliteType.typeOf #[.iface 132 v]).run Tryd.prog w = .ok (.iface 100 (.agg #[.pointer (some ⟨23, 132, none⟩)])) w := by kernel_rfl
/-- The model's entry for (rtype).Comparable. -/
noncomputable def cmpExt : Array Value → Sem Value := Extern.ReflectliteType.method fun t => do Extern.Rtype.noPackHeld "Comparable" t; pure (.bool (← typeInfo t).comparable)
theorem Tryd.isComparable (w : World) : (cmpExt #[.agg #[.pointer (some ⟨23, 132, none⟩)]]).run Tryd.prog w = .ok (.bool true) w := by kernel_rfl
theorem Tryd.isMethodComparable (v : Value) (w : World) : (Go.method 270 100 v "Comparable").run Tryd.prog w = .ok (92, v) w := by kernel_rfl
theorem Tryd.isComp : (Tryd.prog.info? 132).map (·.comparable) = some true := by kernel_rfl
theorem Tryd.isSize : (Tryd.prog.info? 158).map (·.size) = some 1 := by kernel_rfl

/-! ### CLOSED FACTS ON THE METHOD SETS: what errors.is's assertions find -/
theorem Tryd.noIsE (v : Value) (xT : TypeId) (w : World) : (Instr.typeAssert (.iface 132 v) xT 102 true).run Tryd.prog w = .ok (.tuple #[.nilIface, .bool false]) w := run_typeAssert_lacksB Tryd.underlying102 (by kernel_rfl) (by kernel_rfl) v xT w
theorem Tryd.noUnwrapE (v : Value) (xT : TypeId) (w : World) : (Instr.typeAssert (.iface 132 v) xT 105 true).run Tryd.prog w = .ok (.tuple #[.nilIface, .bool false]) w := run_typeAssert_lacksB Tryd.underlying105 (by kernel_rfl) (by kernel_rfl) v xT w
theorem Tryd.noUnwrapsE (v : Value) (xT : TypeId) (w : World) : (Instr.typeAssert (.iface 132 v) xT 107 true).run Tryd.prog w = .ok (.tuple #[.nilIface, .bool false]) w := run_typeAssert_lacksB Tryd.underlying107 (by kernel_rfl) (by kernel_rfl) v xT w

/-- errors.Is(x, x), x a pointer to an errors.errorString. -/
theorem is_same (a : Addr) (w : World) :
    Calls Tryd.prog 25 #[.iface 132 (.pointer (some a)), .iface 132 (.pointer (some a))] w fun e w' => e = .returned (.bool true) ∧ w = w' := by
  obtain ⟨i, hi, hcmp⟩ := Option.map_eq_some_iff.1 Tryd.isComp
  obtain ⟨j, hj, hjs⟩ := Option.map_eq_some_iff.1 Tryd.isSize
  have h8 := @run_callFunc_extern Tryd.prog 40 _ Extern.ReflectliteType.typeOf Tryd.func40 (by kernel_rfl) (by kernel_rfl) (by kernel_rfl) (by kernel_rfl)
  have h32 := @run_callFunc_extern Tryd.prog 92 _ cmpExt Tryd.func92 (by kernel_rfl) (by kernel_rfl) (by kernel_rfl) (by kernel_rfl)
  have tT := Tryd.isTypeOf
  have cT := Tryd.isComparable
  have mR := Tryd.isMethodComparable
  have heq := run_eql_iface_ptr_same (P := Tryd.prog) w a Tryd.underlying38 Tryd.underlying132 hi hcmp hj
  go_enter Tryd.func25, Tryd.ntmps25
  go_wp2
  refine wp_loop_rounds 1 ?_
  rw [rounds_succ]
  go_wp2
  go_ret
  exact ⟨rfl, rfl⟩

/-- errors.Is(nil, x). -/
theorem is_nil (b : Addr) (w : World) :
    Calls Tryd.prog 25 #[.nilIface, .iface 132 (.pointer (some b))] w fun e w' => e = .returned (.bool false) ∧ w = w' := by
  have hn := run_eql_iface_nil_left (P := Tryd.prog) w 132 (.pointer (some b)) Tryd.underlying38
  go_enter Tryd.func25, Tryd.ntmps25
  go_wp2
  go_ret
  exact ⟨rfl, rfl⟩

/-- errors.Is(x, y), two different pointers to errors.errorString: neither has Is nor Unwrap: false. -/
theorem is_other (a b : Addr) (ca cb : Array Value) (ta tb : TypeId) (w : World) (hne : a ≠ b) (ha : w.heap[a.block]? = some (.cells ca ta (0, 0))) (hb : w.heap[b.block]? = some (.cells cb tb (0, 0))) :
    Calls Tryd.prog 25 #[.iface 132 (.pointer (some a)), .iface 132 (.pointer (some b))] w fun e w' => e = .returned (.bool false) ∧ w = w' := by
  obtain ⟨i, hi, hcmp⟩ := Option.map_eq_some_iff.1 Tryd.isComp
  obtain ⟨j, hj, hjs⟩ := Option.map_eq_some_iff.1 Tryd.isSize
  have h8 := @run_callFunc_extern Tryd.prog 40 _ Extern.ReflectliteType.typeOf Tryd.func40 (by kernel_rfl) (by kernel_rfl) (by kernel_rfl) (by kernel_rfl)
  have h32 := @run_callFunc_extern Tryd.prog 92 _ cmpExt Tryd.func92 (by kernel_rfl) (by kernel_rfl) (by kernel_rfl) (by kernel_rfl)
  have tT := Tryd.isTypeOf
  have cT := Tryd.isComparable
  have mR := Tryd.isMethodComparable
  have nE := Tryd.noIsE
  have uE := Tryd.noUnwrapE
  have vE := Tryd.noUnwrapsE
  have heq := run_eql_iface_ptr_other (P := Tryd.prog) w Tryd.underlying38 Tryd.underlying132 hi hcmp hj (by rw [hjs]; decide) hne ha hb
  go_enter Tryd.func25, Tryd.ntmps25
  go_wp2
  refine wp_loop_rounds 1 ?_
  rw [rounds_succ]
  go_wp2
  go_ret
  exact ⟨rfl, rfl⟩


end Go.Proofs.YtahnicbokdbjdaaDoor
/- baileenum.Num by its contracts: the number of a sentinel, and of nil. -/
namespace Go.Proofs.YtahnicbokdbjdaaDoor
open Go.RowKit

/-- The variables of package api's errors, in the document's order. -/
def errGs : List Nat := [0, 1, 2, 3, 4, 5, 6, 7, 8, 9, 10, 11, 12, 13, 14, 15, 16, 17, 18, 19]

/-- The walk of Num's list: the twenty cells. -/
theorem num_cells {w : World} {a : Nat → Addr} (H : Errs 132 errGs w a) :
    w.cell? ⟨0, 0, none⟩ = some (.iface 132 (.pointer (some (a 0)))) ∧
    w.cell? ⟨1, 0, none⟩ = some (.iface 132 (.pointer (some (a 1)))) ∧
    w.cell? ⟨2, 0, none⟩ = some (.iface 132 (.pointer (some (a 2)))) ∧
    w.cell? ⟨3, 0, none⟩ = some (.iface 132 (.pointer (some (a 3)))) ∧
    w.cell? ⟨4, 0, none⟩ = some (.iface 132 (.pointer (some (a 4)))) ∧
    w.cell? ⟨5, 0, none⟩ = some (.iface 132 (.pointer (some (a 5)))) ∧
    w.cell? ⟨6, 0, none⟩ = some (.iface 132 (.pointer (some (a 6)))) ∧
    w.cell? ⟨7, 0, none⟩ = some (.iface 132 (.pointer (some (a 7)))) ∧
    w.cell? ⟨8, 0, none⟩ = some (.iface 132 (.pointer (some (a 8)))) ∧
    w.cell? ⟨9, 0, none⟩ = some (.iface 132 (.pointer (some (a 9)))) ∧
    w.cell? ⟨10, 0, none⟩ = some (.iface 132 (.pointer (some (a 10)))) ∧
    w.cell? ⟨11, 0, none⟩ = some (.iface 132 (.pointer (some (a 11)))) ∧
    w.cell? ⟨12, 0, none⟩ = some (.iface 132 (.pointer (some (a 12)))) ∧
    w.cell? ⟨13, 0, none⟩ = some (.iface 132 (.pointer (some (a 13)))) ∧
    w.cell? ⟨14, 0, none⟩ = some (.iface 132 (.pointer (some (a 14)))) ∧
    w.cell? ⟨15, 0, none⟩ = some (.iface 132 (.pointer (some (a 15)))) ∧
    w.cell? ⟨16, 0, none⟩ = some (.iface 132 (.pointer (some (a 16)))) ∧
    w.cell? ⟨17, 0, none⟩ = some (.iface 132 (.pointer (some (a 17)))) ∧
    w.cell? ⟨18, 0, none⟩ = some (.iface 132 (.pointer (some (a 18)))) ∧
    w.cell? ⟨19, 0, none⟩ = some (.iface 132 (.pointer (some (a 19)))) :=
  ⟨H.var 0 (by decide), H.var 1 (by decide), H.var 2 (by decide), H.var 3 (by decide), H.var 4 (by decide), H.var 5 (by decide), H.var 6 (by decide), H.var 7 (by decide), H.var 8 (by decide), H.var 9 (by decide), H.var 10 (by decide), H.var 11 (by decide), H.var 12 (by decide), H.var 13 (by decide), H.var 14 (by decide), H.var 15 (by decide), H.var 16 (by decide), H.var 17 (by decide), H.var 18 (by decide), H.var 19 (by decide)⟩

def errList (a : Nat → Addr) : Array Value := #[.iface 132 (.pointer (some (a 0))), .iface 132 (.pointer (some (a 1))), .iface 132 (.pointer (some (a 2))), .iface 132 (.pointer (some (a 3))), .iface 132 (.pointer (some (a 4))), .iface 132 (.pointer (some (a 5))), .iface 132 (.pointer (some (a 6))), .iface 132 (.pointer (some (a 7))), .iface 132 (.pointer (some (a 8))), .iface 132 (.pointer (some (a 9))), .iface 132 (.pointer (some (a 10))), .iface 132 (.pointer (some (a 11))), .iface 132 (.pointer (some (a 12))), .iface 132 (.pointer (some (a 13))), .iface 132 (.pointer (some (a 14))), .iface 132 (.pointer (some (a 15))), .iface 132 (.pointer (some (a 16))), .iface 132 (.pointer (some (a 17))), .iface 132 (.pointer (some (a 18))), .iface 132 (.pointer (some (a 19)))]
theorem errList_at (a : Nat → Addr) (m : Nat) (h : m < 20) : (errList a)[m]? = some (.iface 132 (.pointer (some (a m)))) := by
  match m, h with
  | 0, _ => rfl
  | 1, _ => rfl
  | 2, _ => rfl
  | 3, _ => rfl
  | 4, _ => rfl
  | 5, _ => rfl
  | 6, _ => rfl
  | 7, _ => rfl
  | 8, _ => rfl
  | 9, _ => rfl
  | 10, _ => rfl
  | 11, _ => rfl
  | 12, _ => rfl
  | 13, _ => rfl
  | 14, _ => rfl
  | 15, _ => rfl
  | 16, _ => rfl
  | 17, _ => rfl
  | 18, _ => rfl
  | 19, _ => rfl
  | n + 20, h => omega

theorem num_nil (w : World) : Calls Tryd.prog 12 #[.nilIface] w fun e w' => e = .returned (.int .i64 0) ∧ w = w' := by
  go_enter Tryd.func12, Tryd.ntmps12
  go_wp2_with fail
  go_ret
  exact ⟨rfl, rfl⟩

set_option maxRecDepth 100000 in
set_option maxHeartbeats 1000000 in
theorem num_err (i : Nat) (hi : i < 20) (a : Nat → Addr) (w : World) (H : Errs 132 errGs w a) :
    Calls Tryd.prog 12 #[.iface 132 (.pointer (some (a i)))] w fun e w' => e = .returned (.int .i64 ((i + 1 : Nat) : Int)) ∧ Below w.heap.size w w' := by
  obtain ⟨g0, g1, g2, g3, g4, g5, g6, g7, g8, g9, g10, g11, g12, g13, g14, g15, g16, g17, g18, g19⟩ := num_cells H
  have H := Lib.hid H
  go_enter Tryd.func12, Tryd.ntmps12
  go_wp2_with fail
  obtain ⟨w1, hw1⟩ : ∃ w1, w1 = w.alloc (Obj.cells (errList a) 38) := ⟨_, rfl⟩
  have hcl : ∀ m, m < 20 → w1.cell? ⟨w.heap.size, m, none⟩ = some (.iface 132 (.pointer (some (a m)))) := by
    intro m hm
    rw [hw1, cell_of_block (heap_alloc_new w _)]
    exact errList_at a m hm
  have hb1 : Below w.heap.size w w1 := by rw [hw1]; exact (Below.refl _ _).alloc (Nat.le_refl _) _
  have H1 := Lib.hid (H.out.below hb1)
  have hcl := Lib.hid hcl
  unfold errList at hw1
  rw [← hw1]
  clear hw1 H
  clear g0 g1 g2 g3 g4 g5 g6 g7 g8 g9 g10 g11 g12 g13 g14 g15 g16 g17 g18 g19
  go_loop [31] (fun j => ∃ m : Nat, m ≤ i ∧ j = .int .i64 m) (fun j => i - (intOf j).toNat)
  case atStart => exact ⟨0, Nat.zero_le _, rfl⟩
  case round =>
    obtain ⟨m, hm, rfl⟩ := hrel
    have hc := hcl.out m (by omega)
    by_cases hlt : m < i
    · obtain ⟨c1, t1, o1⟩ := H1.out.obj i hi
      obtain ⟨c2, t2, o2⟩ := H1.out.obj m (by show m < 20; omega)
      have hne : a i ≠ a m := fun e => by have := H1.out.inj i m hi (by show m < 20; omega) e; omega
      have o1 := Lib.hid o1
      have o2 := Lib.hid o2
      have hne := Lib.hid hne
      go_wp2_with fail
      refine (is_other (a i) (a m) c1 c2 t1 t2 _ hne.out o1.out o2.out).mono ?_
      rintro e w2 ⟨rfl, rfl⟩
      go_wp2_with fail
      exact ⟨⟨m + 1, by omega, by go_num⟩, by simp [intOf]; omega⟩
    · obtain rfl : m = i := by omega
      go_wp2_with fail
      refine (is_same (a m) _).mono ?_
      rintro e w2 ⟨rfl, rfl⟩
      go_wp2_with fail
      go_ret
      exact ⟨rfl, hb1⟩

end Go.Proofs.YtahnicbokdbjdaaDoor
