/- WrapIs, NumW, ParOps, LabelA. -/
import Derived.Test.YtahnicbokdbjdaaDoorF15ParsSaid20
import Derived.Test.YtahnicbokdbjdaaDoorF12ParsSaid20
import Derived.Test.YtahnicbokdbjdaaDoorF14ParsSaid20
import Derived.Test.YtahnicbokdbjdaaDoorShelf
import Derived.Test.YtahnicbokdbjdaaDoorF1ParsSaid20
/- errors.Is where a *params.Wrong wraps a sentinel (after the kit's worked text SentryIs, turned to this seat); baileenum.Num of such an error. -/
namespace Go.Proofs.YtahnicbokdbjdaaDoor
open Go.RowKit Go.Extern.Stop Go.Stop Go.Extern

theorem Tryd.noIsW (v : Value) (xT : TypeId) (w : World) : (Instr.typeAssert (.iface 93 v) xT 102 true).run Tryd.prog w = .ok (.tuple #[.nilIface, .bool false]) w := run_typeAssert_lacksB Tryd.underlying102 (by kernel_rfl) (by kernel_rfl) v xT w
theorem Tryd.hasUnwrapW (v : Value) (xT : TypeId) (w : World) : (Instr.typeAssert (.iface 93 v) xT 105 true).run Tryd.prog w = .ok (.tuple #[.iface 93 v, .bool true]) w := run_typeAssert_hasB Tryd.underlying105 (by kernel_rfl) v xT w
theorem Tryd.methodUnwrap (v : Value) (w : World) : (Go.method 270 93 v "Unwrap").run Tryd.prog w = .ok (88, v) w := by kernel_rfl

/-- errors.Is(e, x), e a *fmt.wrapError that wraps x itself: one Unwrap, then equal. -/
theorem is_wrap_same (pb po : Nat) (b : Addr) (w : World) (h1 : w.cell? ⟨pb, po + 2, none⟩ = some (.iface 132 (.pointer (some b)))) :
    Calls Tryd.prog 25 #[.iface 93 (.pointer (some ⟨pb, po, none⟩)), .iface 132 (.pointer (some b))] w fun e w' => e = .returned (.bool true) ∧ w = w' := by
  obtain ⟨i, hi, hcmp⟩ := Option.map_eq_some_iff.1 Tryd.isComp
  obtain ⟨j, hj, hjs⟩ := Option.map_eq_some_iff.1 Tryd.isSize
  have h8 := @run_callFunc_extern Tryd.prog 40 _ Extern.ReflectliteType.typeOf Tryd.func40 (by kernel_rfl) (by kernel_rfl) (by kernel_rfl) (by kernel_rfl)
  have h32 := @run_callFunc_extern Tryd.prog 92 _ cmpExt Tryd.func92 (by kernel_rfl) (by kernel_rfl) (by kernel_rfl) (by kernel_rfl)
  have tT := Tryd.isTypeOf
  have cT := Tryd.isComparable
  have mR := Tryd.isMethodComparable
  have nE := Tryd.noIsE
  have uE := Tryd.noUnwrapE
  have vE := Tryd.noUnwrapsE
  have nW := Tryd.noIsW
  have uW := Tryd.hasUnwrapW
  have mU := Tryd.methodUnwrap
  have heq := run_eql_iface_ptr_same (P := Tryd.prog) w b Tryd.underlying38 Tryd.underlying132 hi hcmp hj
  have hty := run_eql_iface_types (P := Tryd.prog) 93 132 (.pointer (some ⟨pb, po, none⟩)) (.pointer (some b)) Tryd.underlying38 (by decide) w
  go_enter Tryd.func25, Tryd.ntmps25
  go_wp2
  refine wp_loop_rounds 2 ?_
  rw [rounds_succ]
  go_wp2
  rw [rounds_succ]
  go_wp2
  go_ret
  exact ⟨rfl, rfl⟩

/-- errors.Is(e, x), e a *fmt.wrapError that wraps another error of errors.New's make. -/
theorem is_wrap_other (pb po : Nat) (b a : Addr) (ca cb : Array Value) (ta tb : TypeId) (w : World) (h1 : w.cell? ⟨pb, po + 2, none⟩ = some (.iface 132 (.pointer (some a)))) (hne : a ≠ b) (ha : w.heap[a.block]? = some (.cells ca ta (0, 0))) (hb : w.heap[b.block]? = some (.cells cb tb (0, 0))) :
    Calls Tryd.prog 25 #[.iface 93 (.pointer (some ⟨pb, po, none⟩)), .iface 132 (.pointer (some b))] w fun e w' => e = .returned (.bool false) ∧ w = w' := by
  obtain ⟨i, hi, hcmp⟩ := Option.map_eq_some_iff.1 Tryd.isComp
  obtain ⟨j, hj, hjs⟩ := Option.map_eq_some_iff.1 Tryd.isSize
  have h8 := @run_callFunc_extern Tryd.prog 40 _ Extern.ReflectliteType.typeOf Tryd.func40 (by kernel_rfl) (by kernel_rfl) (by kernel_rfl) (by kernel_rfl)
  have h32 := @run_callFunc_extern Tryd.prog 92 _ cmpExt Tryd.func92 (by kernel_rfl) (by kernel_rfl) (by kernel_rfl) (by kernel_rfl)
  have tT := Tryd.isTypeOf
  have cT := Tryd.isComparable
  have mR := Tryd.isMethodComparable
  have nE := Tryd.noIsE
  have uE := Tryd.noUnwrapE
  have vE := Tryd.noUnwrapsE
  have nW := Tryd.noIsW
  have uW := Tryd.hasUnwrapW
  have mU := Tryd.methodUnwrap
  have heq := run_eql_iface_ptr_other (P := Tryd.prog) w Tryd.underlying38 Tryd.underlying132 hi hcmp hj (by rw [hjs]; decide) hne ha hb
  have hty := run_eql_iface_types (P := Tryd.prog) 93 132 (.pointer (some ⟨pb, po, none⟩)) (.pointer (some b)) Tryd.underlying38 (by decide) w
  go_enter Tryd.func25, Tryd.ntmps25
  go_wp2
  refine wp_loop_rounds 2 ?_
  rw [rounds_succ]
  go_wp2
  rw [rounds_succ]
  go_wp2
  go_ret
  exact ⟨rfl, rfl⟩


end Go.Proofs.YtahnicbokdbjdaaDoor
/- baileenum.Num of a *params.Wrong. -/
namespace Go.Proofs.YtahnicbokdbjdaaDoor
open Go.RowKit

set_option maxRecDepth 100000 in
set_option maxHeartbeats 1000000 in
theorem num_wrap (g : Nat) (F : ByteArray) (V : Int) (i : Nat) (hi : i < 20) (a : Nat → Addr) (w : World) (H : Errs 132 errGs w a) (hg : w.heap[g]? = some (.cells #[.string F, .int .i64 V, .iface 132 (.pointer (some (a i)))] 95 (0, 0))) :
    Calls Tryd.prog 12 #[.iface 93 (.pointer (some ⟨g, 0, none⟩))] w fun e w' => e = .returned (.int .i64 ((i + 1 : Nat) : Int)) ∧ Below w.heap.size w w' := by
  obtain ⟨g0, g1, g2, g3, g4, g5, g6, g7, g8, g9, g10, g11, g12, g13, g14, g15, g16, g17, g18, g19⟩ := num_cells H
  have H := Lib.hid H
  go_enter Tryd.func12, Tryd.ntmps12
  go_wp2_with fail
  obtain ⟨w1, hw1⟩ : ∃ w1, w1 = w.alloc (Obj.cells (errList a) 38) := ⟨_, rfl⟩
  have hcl : ∀ m, m < 20 → w1.cell? ⟨w.heap.size, m, none⟩ = some (.iface 132 (.pointer (some (a m)))) := by
    intro m hm
    rw [hw1, cell_of_block (heap_alloc_new w _)]
    exact errList_at a m hm
  have hb1 : Below w.heap.size w w1 := by rw [hw1]; exact (Below.refl _ _).alloc (Nat.le_refl _) _
  have H1 := Lib.hid (H.out.below hb1)
  have hw := Lib.hid (cell_of_block ((hb1.block g (block_lt hg)).trans hg) 2)
  clear hg
  have hcl := Lib.hid hcl
  unfold errList at hw1
  rw [← hw1]
  clear hw1 H
  clear g0 g1 g2 g3 g4 g5 g6 g7 g8 g9 g10 g11 g12 g13 g14 g15 g16 g17 g18 g19
  go_loop [31] (fun j => ∃ m : Nat, m ≤ i ∧ j = .int .i64 m) (fun j => i - (intOf j).toNat)
  case atStart => exact ⟨0, Nat.zero_le _, rfl⟩
  case round =>
    obtain ⟨m, hm, rfl⟩ := hrel
    have hc := hcl.out m (by omega)
    by_cases hlt : m < i
    · obtain ⟨c1, t1, o1⟩ := H1.out.obj i hi
      obtain ⟨c2, t2, o2⟩ := H1.out.obj m (by show m < 20; omega)
      have hne : a i ≠ a m := fun e => by have := H1.out.inj i m hi (by show m < 20; omega) e; omega
      have o1 := Lib.hid o1
      have o2 := Lib.hid o2
      have hne := Lib.hid hne
      go_wp2_with fail
      refine (is_wrap_other g 0 (a m) (a i) c1 c2 t1 t2 _ hw.out hne.out o1.out o2.out).mono ?_
      rintro e w2 ⟨rfl, rfl⟩
      go_wp2_with fail
      exact ⟨⟨m + 1, by omega, by go_num⟩, by simp [intOf]; omega⟩
    · obtain rfl : m = i := by omega
      go_wp2_with fail
      refine (is_wrap_same g 0 (a m) _ hw.out).mono ?_
      rintro e w2 ⟨rfl, rfl⟩
      go_wp2_with fail
      go_ret
      exact ⟨rfl, hb1⟩


end Go.Proofs.YtahnicbokdbjdaaDoor
/- Walks over params.Plain, Stored, Window, Budget, Bytes, Field; the reference's Stored, Bytes. -/
namespace Go.Proofs.YtahnicbokdbjdaaDoor
open Go.RowKit


/-- The three sentinels of params out of the twenty. -/
def pz (ea : Nat → Addr) (j : Nat) : Addr := ea (if j = 0 then 0 else if j = 1 then 7 else 17)
theorem par_of {w : World} {ea : Nat → Addr} (H : Errs 132 errGs w ea) : ParErrs w (pz ea) := by
  refine ⟨fun i hi => ?_, fun i hi => ?_, fun i j hi hj e => ?_⟩
  · rcases (show i = 0 ∨ i = 1 ∨ i = 2 from by simp [parGs] at hi; omega) with rfl | rfl | rfl
    · exact H.var 0 (by decide)
    · exact H.var 7 (by decide)
    · exact H.var 17 (by decide)
  · rcases (show i = 0 ∨ i = 1 ∨ i = 2 from by simp [parGs] at hi; omega) with rfl | rfl | rfl
    · exact H.obj 0 (by decide)
    · exact H.obj 7 (by decide)
    · exact H.obj 17 (by decide)
  · have hi' : i = 0 ∨ i = 1 ∨ i = 2 := by simp [parGs] at hi; omega
    have hj' : j = 0 ∨ j = 1 ∨ j = 2 := by simp [parGs] at hj; omega
    have := H.inj (if i = 0 then 0 else if i = 1 then 7 else 17) (if j = 0 then 0 else if j = 1 then 7 else 17) (by show _ < 20; split <;> (try split) <;> omega) (by show _ < 20; split <;> (try split) <;> omega) e
    rcases hi' with rfl | rfl | rfl <;> rcases hj' with rfl | rfl | rfl <;> simp_all

theorem badAt_ok {s n k d t r : Int} (h : badAt s n k d t r = none) : ParOk s n k d t r := by
  rcases badAt_cases s n k d t r with ⟨_, h'⟩ | ⟨_, _, h'⟩ | ⟨_, _, _, h'⟩ | ⟨_, _, _, _, h'⟩ | ⟨_, _, _, _, _, h'⟩ | ⟨_, _, _, _, _, _, h'⟩ | ⟨h1, h2, h3, h4, h5, h6, _⟩
  all_goals first | (rw [h] at h'; cases h') | exact ⟨h1, h2, h3, h4, h5, h6⟩
theorem badAt_lt {s n k d t r V : Int} {F : ByteArray} {i : Nat} (h : badAt s n k d t r = some (F, V, i)) : i < 20 := by
  rcases badAt_cases s n k d t r with ⟨_, h'⟩ | ⟨_, _, h'⟩ | ⟨_, _, _, h'⟩ | ⟨_, _, _, _, h'⟩ | ⟨_, _, _, _, _, h'⟩ | ⟨_, _, _, _, _, _, h'⟩ | ⟨h1, h2, h3, h4, h5, h6, h'⟩
  all_goals (rw [h] at h'; first | (cases h'; omega) | cases h')

/-- Check of wrong parameters. -/
theorem check_wrong (s n k d t r : Int) (F : ByteArray) (V : Int) (i : Nat) (h : badAt s n k d t r = some (F, V, i)) (hn : -9223372036854775808 ≤ n ∧ n ≤ 9223372036854775807) (ea : Nat → Addr) (w : World) (H : Errs 132 errGs w ea) :
    Calls Tryd.prog 29 #[.agg #[.int .i64 s, .int .i64 n, .int .i64 k, .int .i64 d, .int .i64 t, .int .i64 r]] w fun e w' => ∃ g, e = .returned (.iface 93 (.pointer (some ⟨g, 0, none⟩))) ∧ w.heap.size ≤ g ∧ w'.heap[g]? = some (.cells #[.string F, .int .i64 V, .iface 132 (.pointer (some (ea i)))] 95 (0, 0)) ∧ Below w.heap.size w w' := by
  have hE := par_of H
  have fin : ∀ F' V' i', (Calls Tryd.prog 29 #[parV s n k d t r] w fun e w' => ∃ v, e = .returned v ∧ WrongV w.heap.size w' v F' V' (ea i') ∧ Below w.heap.size w w') → badAt s n k d t r = some (F', V', i') → Calls Tryd.prog 29 #[.agg #[.int .i64 s, .int .i64 n, .int .i64 k, .int .i64 d, .int .i64 t, .int .i64 r]] w fun e w' => ∃ g, e = .returned (.iface 93 (.pointer (some ⟨g, 0, none⟩))) ∧ w.heap.size ≤ g ∧ w'.heap[g]? = some (.cells #[.string F, .int .i64 V, .iface 132 (.pointer (some (ea i)))] 95 (0, 0)) ∧ Below w.heap.size w w' := by
    intro F' V' i' hc h'
    rw [h] at h'
    cases h'
    refine Calls.mono hc ?_
    rintro e w' ⟨v, rfl, ⟨g, rfl, h1, h2⟩, hb⟩
    exact ⟨g, rfl, h1, h2, hb⟩
  rcases badAt_cases s n k d t r with ⟨h1, h'⟩ | ⟨h1, h2, h'⟩ | ⟨h1, h2, h3, h'⟩ | ⟨h1, h2, h3, h4, h'⟩ | ⟨h1, h2, h3, h4, h5, h'⟩ | ⟨h1, h2, h3, h4, h5, h6, h'⟩ | ⟨h1, h2, h3, h4, h5, h6, h'⟩
  · exact fin _ _ _ (check_bad0 s n k d t r h1 (pz ea) w hE hn) h'
  · exact fin _ _ _ (check_bad1 s n k d t r h1 h2 (pz ea) w hE) h'
  · exact fin _ _ _ (check_bad2 s n k d t r h1 h2 h3 (pz ea) w hE) h'
  · exact fin _ _ _ (check_bad3 s n k d t r h1 h2 h3 h4 (pz ea) w hE) h'
  · exact fin _ _ _ (check_bad4 s n k d t r h1 h2 h3 h4 h5 (pz ea) w hE) h'
  · exact fin _ _ _ (check_bad5 s n k d t r h1 h2 h3 h4 h5 h6 (pz ea) w hE) h'
  · rw [h] at h'; cases h'

/-- What is told of an answer that is a wrong field's error. -/
def WrongAns (base : Nat) (w : World) (F : ByteArray) (V : Int) (x : Addr) (g : Nat) : Prop := base ≤ g ∧ w.heap[g]? = some (.cells #[.string F, .int .i64 V, .iface 132 (.pointer (some x))] 95 (0, 0))
theorem WrongAns.below {base : Nat} {w w' : World} {F : ByteArray} {V : Int} {x : Addr} {g : Nat} (h : WrongAns base w F V x g) (hb : Below w.heap.size w w') : WrongAns base w' F V x g := ⟨h.1, (hb.block g (block_lt h.2)).trans h.2⟩

section
variable (s n k d t r : Int) (F : ByteArray) (V : Int) (i : Nat) (ea : Nat → Addr) (w : World)

end
end Go.Proofs.YtahnicbokdbjdaaDoor
/- The walks over label.Label and the reference's Label. -/
namespace Go.Proofs.YtahnicbokdbjdaaDoor
open Go.RowKit

def low (c : UInt8) : Bool := decide (97 ≤ c.toNat ∧ c.toNat ≤ 122)
/-- Is it a label? -/
def labB (bs : List UInt8) : Bool := decide (1 ≤ bs.length ∧ bs.length ≤ 12) && bs.all low
def lettersB : List UInt8 := [97, 98, 99, 100, 101, 102, 103, 104, 105, 106, 107, 108, 109, 110, 111, 112, 113, 114, 115, 116, 117, 118, 119, 120, 121, 122]

theorem low_in (c : UInt8) : lettersB.contains c = low c := by
  have : ∀ n, n < 256 → lettersB.contains (UInt8.ofNat n) = low (UInt8.ofNat n) := by decide +kernel
  have h := this c.toNat c.toNat_lt
  rwa [UInt8.ofNat_toNat] at h
theorem dropWhile_nil {α : Type} (p : α → Bool) : ∀ l : List α, l.dropWhile p = [] ↔ l.all p = true
  | [] => by simp
  | x :: l => by
    rw [List.dropWhile_cons, List.all_cons]
    cases hp : p x
    · simp
    · simpa using dropWhile_nil p l
theorem dropWhile_all {α : Type} (p : α → Bool) : ∀ l : List α, (l.dropWhile p).all p = l.all p
  | [] => rfl
  | x :: l => by
    rw [List.dropWhile_cons, List.all_cons]
    cases hp : p x
    · simp [hp]
    · simpa using dropWhile_all p l
theorem trim_nil (l : List UInt8) : Lib.trimS l lettersB = [] ↔ l.all low = true := by
  unfold Lib.trimS Lib.trimLeftS Lib.trimRightS
  rw [dropWhile_nil]
  have hf : (fun x => lettersB.contains x) = low := funext low_in
  rw [hf, List.all_reverse, dropWhile_all, List.all_reverse]

theorem trim_any (s : ByteArray) (w : World) (hs : s.size ≤ 9223372036854775807) :
    Calls Tryd.prog 42 #[.string s, .string ⟨#[97, 98, 99, 100, 101, 102, 103, 104, 105, 106, 107, 108, 109, 110, 111, 112, 113, 114, 115, 116, 117, 118, 119, 120, 121, 122]⟩] w fun e w' => e = .returned (.string ⟨(Lib.trimS s.data.toList lettersB).toArray⟩) ∧ Below w.heap.size w w' :=
  Any.strings_Trim_laid Tryd.lays160 (by kernel_rfl) s ⟨#[97, 98, 99, 100, 101, 102, 103, 104, 105, 106, 107, 108, 109, 110, 111, 112, 113, 114, 115, 116, 117, 118, 119, 120, 121, 122]⟩ w hs (by decide) (ascii_of_all (by decide))

set_option maxHeartbeats 1000000 in
theorem label_any (s : ByteArray) (w : World) (hs : s.size ≤ 9223372036854775807) :
    Calls Tryd.prog 28 #[.string s] w fun e w' => e = .returned (.bool (labB s.data.toList)) ∧ Below w.heap.size w w' := by
  have hlen : s.data.toList.length = s.size := by simp
  by_cases h1 : 1 ≤ s.size ∧ s.size ≤ 12
  · have ht := Lib.hid (trim_any s w hs)
    have hv : labB s.data.toList = s.data.toList.all low := by unfold labB; rw [hlen, decide_eq_true h1, Bool.true_and]
    have h1i : (1 : Int) ≤ s.size := by omega
    have h2i : (s.size : Int) ≤ 12 := by omega
    have htn := trim_nil s.data.toList
    rw [hv]
    replace hlen := Lib.hid hlen
    replace hv := Lib.hid hv
    cases hal : s.data.toList.all low
    · have hne : Lib.trimS s.data.toList lettersB ≠ [] := fun e => by rw [htn.1 e] at hal; cases hal
      have hb2 : (Lib.trimS s.data.toList lettersB).isEmpty = false := by rw [List.isEmpty_eq_false_iff]; exact hne
      clear htn
      replace hal := Lib.hid hal
      generalize Lib.trimS s.data.toList lettersB = T at *
      go_enter Tryd.func28, Tryd.ntmps28
      go_wp2_with fail
      with_reducible refine ht.out.mono ?_
      rintro e w1 ⟨rfl, hb1⟩
      replace hb1 := Lib.hid hb1
      go_wp2_with fail
      go_ret
      exact ⟨rfl, hb1.out⟩
    · have hne : Lib.trimS s.data.toList lettersB = [] := htn.2 hal
      rw [hne] at ht
      clear htn hne
      replace hal := Lib.hid hal
      go_enter Tryd.func28, Tryd.ntmps28
      go_wp2_with fail
      with_reducible refine ht.out.mono ?_
      rintro e w1 ⟨rfl, hb1⟩
      replace hb1 := Lib.hid hb1
      go_wp2_with fail
      go_ret
      exact ⟨rfl, hb1.out⟩
  · have hv : labB s.data.toList = false := by unfold labB; rw [hlen, decide_eq_false h1, Bool.false_and]
    rw [hv]
    by_cases h0 : s.size = 0
    · have hd : decide (1 ≤ (s.size : Int)) = false := by simp; omega
      clear h1 hlen
      replace hv := Lib.hid hv
      replace h0 := Lib.hid h0
      go_enter Tryd.func28, Tryd.ntmps28
      go_wp2_with fail
      go_ret
      exact ⟨rfl, Below.refl _ _⟩
    · have h1i : (1 : Int) ≤ s.size := by omega
      have h2i : ¬ (s.size : Int) ≤ 12 := by omega
      clear h1 hlen h0
      replace hv := Lib.hid hv
      go_enter Tryd.func28, Tryd.ntmps28
      go_wp2_with fail
      go_ret
      exact ⟨rfl, Below.refl _ _⟩

set_option maxHeartbeats 1000000 in
theorem rLabel_any (s : ByteArray) (w : World) (hs : s.size ≤ 9223372036854775807) :
    Calls Tryd.prog 38 #[.string s] w fun e w' => e = .returned (.bool (labB s.data.toList)) ∧ w = w' := by
  have hlen : s.data.toList.length = s.size := by simp
  have hlab := Lib.hid (show labB s.data.toList = (decide (0 < (s.size : Int)) && (decide ((s.size : Int) < 13) && s.data.toList.all low)) from by
    unfold labB; rw [hlen, ← Bool.and_assoc]; congr 1; rw [Bool.eq_iff_iff]; simp; omega)
  have hall := Lib.hid (fun i (h : i < s.size) (hf : low s[i] = false) => show s.data.toList.all low = false from by
    rw [List.all_eq_false]
    exact ⟨s[i], by simp [ByteArray.getElem_eq_getElem_data], by rw [hf]; decide⟩)
  have hend := Lib.hid (fun (h : ∀ i, (hi : i < s.size) → low s[i] = true) => show s.data.toList.all low = true from by
    rw [List.all_eq_true]
    intro x hx
    obtain ⟨i, hi, rfl⟩ := List.getElem_of_mem hx
    exact h i (by simpa using hi))
  replace hlen := Lib.hid hlen
  go_enter Tryd.func38, Tryd.ntmps38
  go_wp2_with fail
  go_loop [3] (fun j => ∃ i : Nat, i ≤ s.size ∧ j = .int .i64 i ∧ ∀ k, (hk : k < s.size) → k < i → low s[k] = true) (fun j => s.size - (intOf j).toNat)
  case atStart => exact ⟨0, Nat.zero_le _, rfl, fun k _ h => absurd h (Nat.not_lt_zero k)⟩
  case round =>
    obtain ⟨i, hi, rfl, hpre⟩ := hrel
    replace hpre := Lib.hid hpre
    by_cases hlt : i < s.size
    · have hli : (i : Int) < s.size := by omega
      cases hlo : low s[i]
      · have hf := hall.out i hlt hlo
        have hv : labB s.data.toList = false := by rw [hlab.out, hf]; simp
        unfold low at hlo
        have hlo2 : s[i].toNat < 97 ∨ 122 < s[i].toNat := by simpa [decide_eq_false_iff_not] using (show ¬ (97 ≤ s[i].toNat ∧ s[i].toNat ≤ 122) from by simpa using hlo) |> fun h => (by omega : s[i].toNat < 97 ∨ 122 < s[i].toNat)
        have hd : ∃ b1 b2 : Bool, decide ((s[i].toNat : Int) < 97) = b1 ∧ decide (122 < (s[i].toNat : Int)) = b2 ∧ (b1 || b2) = true := by
          refine ⟨_, _, rfl, rfl, ?_⟩
          simp only [Bool.or_eq_true, decide_eq_true_eq]
          omega
        obtain ⟨b1, b2, e1, e2, e4⟩ := hd
        replace hlo := Lib.hid hlo; replace hlo2 := Lib.hid hlo2; replace hf := Lib.hid hf; replace hv := Lib.hid hv
        cases b1 <;> cases b2 <;> simp at e4
        all_goals
          go_wp2_with fail
          go_ret
          exact ⟨by rw [hv.out]; rfl, rfl⟩
      · unfold low at hlo
        have hlo2 : 97 ≤ s[i].toNat ∧ s[i].toNat ≤ 122 := by simpa using hlo
        have e1 : ¬ (s[i].toNat : Int) < 97 := by omega
        have e2 : ¬ 122 < (s[i].toNat : Int) := by omega
        have hnext := Lib.hid (show ∀ k, (hk : k < s.size) → k < i + 1 → low s[k] = true from fun k hk h => by
          rcases Nat.lt_or_ge k i with h' | h'
          · exact hpre.out k hk h'
          · obtain rfl : k = i := by omega
            unfold low; exact hlo)
        replace hlo := Lib.hid hlo; replace hlo2 := Lib.hid hlo2
        go_wp2_with fail
        exact ⟨⟨i + 1, by omega, by go_num, hnext.out⟩, by simp [intOf]; omega⟩
    · obtain rfl : i = s.size := by omega
      have hv := hlab.out
      rw [hend.out (fun k hk => hpre.out k hk hk), Bool.and_true] at hv
      replace hv := Lib.hid hv
      by_cases h0 : s.size = 0
      · have h1 : decide (0 < s.size) = false := by rw [h0]; rfl
        have hr : (decide (0 < (s.size : Int)) && decide ((s.size : Int) < 13)) = false := by rw [h0]; rfl
        replace h0 := Lib.hid h0
        replace hr := Lib.hid hr
        go_wp2_with fail
        go_ret
        exact ⟨by rw [hv.out, hr.out]; rfl, rfl⟩
      · have h1 : 0 < s.size := by omega
        have h1i : (0 : Int) < s.size := by omega
        by_cases h13 : s.size < 13
        · have h2i : (s.size : Int) < 13 := by omega
          have hr := Lib.hid (show (decide (0 < (s.size : Int)) && decide ((s.size : Int) < 13)) = true from by simp; omega)
          clear h0
          go_wp2_with fail
          go_ret
          exact ⟨by rw [hv.out, hr.out]; rfl, rfl⟩
        · have h2i : ¬ (s.size : Int) < 13 := by omega
          have hr := Lib.hid (show (decide (0 < (s.size : Int)) && decide ((s.size : Int) < 13)) = false from by simp; omega)
          clear h0
          go_wp2_with fail
          go_ret
          exact ⟨by rw [hv.out, hr.out]; rfl, rfl⟩

end Go.Proofs.YtahnicbokdbjdaaDoor
