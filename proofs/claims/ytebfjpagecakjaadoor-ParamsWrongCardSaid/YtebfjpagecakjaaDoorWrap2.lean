/- errors.Is and baileenum.Num where a *params.Wrong wraps another. -/
import Derived.Test.YtebfjpagecakjaaDoorNumW
namespace Go.Proofs.YtebfjpagecakjaaDoor
open Go.RowKit

/-- errors.Is(e, x), e a *fmt.wrapError that wraps x itself: one Unwrap, then equal. -/
theorem is_wrap2_same (qb qo pb po : Nat) (b : Addr) (w : World) (h0 : w.cell? ⟨qb, qo + 2, none⟩ = some (.iface 56 (.pointer (some ⟨pb, po, none⟩)))) (h1 : w.cell? ⟨pb, po + 2, none⟩ = some (.iface 123 (.pointer (some b)))) :
    Calls Tryd.prog 33 #[.iface 56 (.pointer (some ⟨qb, qo, none⟩)), .iface 123 (.pointer (some b))] w fun e w' => e = .returned (.bool true) ∧ w = w' := by
  obtain ⟨i, hi, hcmp⟩ := Option.map_eq_some_iff.1 Tryd.isComp
  obtain ⟨j, hj, hjs⟩ := Option.map_eq_some_iff.1 Tryd.isSize
  have h8 := @run_callFunc_extern Tryd.prog 38 _ Extern.ReflectliteType.typeOf Tryd.func38 (by kernel_rfl) (by kernel_rfl) (by kernel_rfl) (by kernel_rfl)
  have h32 := @run_callFunc_extern Tryd.prog 81 _ cmpExt Tryd.func81 (by kernel_rfl) (by kernel_rfl) (by kernel_rfl) (by kernel_rfl)
  have tT := Tryd.isTypeOf
  have cT := Tryd.isComparable
  have mR := Tryd.isMethodComparable
  have nE := Tryd.noIsE
  have uE := Tryd.noUnwrapE
  have vE := Tryd.noUnwrapsE
  have nW := Tryd.noIsW
  have uW := Tryd.hasUnwrapW
  have mU := Tryd.methodUnwrap
  have heq := run_eql_iface_ptr_same (P := Tryd.prog) w b Tryd.underlying27 Tryd.underlying123 hi hcmp hj
  have hty := run_eql_iface_types (P := Tryd.prog) 56 123 (.pointer (some ⟨pb, po, none⟩)) (.pointer (some b)) Tryd.underlying27 (by decide) w
  have hty2 := run_eql_iface_types (P := Tryd.prog) 56 123 (.pointer (some ⟨qb, qo, none⟩)) (.pointer (some b)) Tryd.underlying27 (by decide) w
  go_enter Tryd.func33, Tryd.ntmps33
  go_wp2
  refine wp_loop_rounds 3 ?_
  rw [rounds_succ]
  go_wp2
  rw [rounds_succ]
  go_wp2
  rw [rounds_succ]
  go_wp2
  go_ret
  exact ⟨rfl, rfl⟩

/-- errors.Is(e, x), e a *fmt.wrapError that wraps another error of errors.New's make. -/
theorem is_wrap2_other (qb qo pb po : Nat) (b a : Addr) (ca cb : Array Value) (ta tb : TypeId) (w : World) (h0 : w.cell? ⟨qb, qo + 2, none⟩ = some (.iface 56 (.pointer (some ⟨pb, po, none⟩)))) (h1 : w.cell? ⟨pb, po + 2, none⟩ = some (.iface 123 (.pointer (some a)))) (hne : a ≠ b) (ha : w.heap[a.block]? = some (.cells ca ta (0, 0))) (hb : w.heap[b.block]? = some (.cells cb tb (0, 0))) :
    Calls Tryd.prog 33 #[.iface 56 (.pointer (some ⟨qb, qo, none⟩)), .iface 123 (.pointer (some b))] w fun e w' => e = .returned (.bool false) ∧ w = w' := by
  obtain ⟨i, hi, hcmp⟩ := Option.map_eq_some_iff.1 Tryd.isComp
  obtain ⟨j, hj, hjs⟩ := Option.map_eq_some_iff.1 Tryd.isSize
  have h8 := @run_callFunc_extern Tryd.prog 38 _ Extern.ReflectliteType.typeOf Tryd.func38 (by kernel_rfl) (by kernel_rfl) (by kernel_rfl) (by kernel_rfl)
  have h32 := @run_callFunc_extern Tryd.prog 81 _ cmpExt Tryd.func81 (by kernel_rfl) (by kernel_rfl) (by kernel_rfl) (by kernel_rfl)
  have tT := Tryd.isTypeOf
  have cT := Tryd.isComparable
  have mR := Tryd.isMethodComparable
  have nE := Tryd.noIsE
  have uE := Tryd.noUnwrapE
  have vE := Tryd.noUnwrapsE
  have nW := Tryd.noIsW
  have uW := Tryd.hasUnwrapW
  have mU := Tryd.methodUnwrap
  have heq := run_eql_iface_ptr_other (P := Tryd.prog) w Tryd.underlying27 Tryd.underlying123 hi hcmp hj (by rw [hjs]; decide) hne ha hb
  have hty := run_eql_iface_types (P := Tryd.prog) 56 123 (.pointer (some ⟨pb, po, none⟩)) (.pointer (some b)) Tryd.underlying27 (by decide) w
  have hty2 := run_eql_iface_types (P := Tryd.prog) 56 123 (.pointer (some ⟨qb, qo, none⟩)) (.pointer (some b)) Tryd.underlying27 (by decide) w
  go_enter Tryd.func33, Tryd.ntmps33
  go_wp2
  refine wp_loop_rounds 3 ?_
  rw [rounds_succ]
  go_wp2
  rw [rounds_succ]
  go_wp2
  rw [rounds_succ]
  go_wp2
  go_ret
  exact ⟨rfl, rfl⟩


set_option maxRecDepth 100000 in
set_option maxHeartbeats 1000000 in
theorem num_wrap2 (u : Nat) (F' : ByteArray) (V' : Int) (g : Nat) (F : ByteArray) (V : Int) (i : Nat) (hi : i < 20) (a : Nat → Addr) (w : World) (H : Errs 123 errGs w a) (hg : w.heap[g]? = some (.cells #[.string F, .int .i64 V, .iface 123 (.pointer (some (a i)))] 59 (0, 0))) (hu : w.heap[u]? = some (.cells #[.string F', .int .i64 V', .iface 56 (.pointer (some ⟨g, 0, none⟩))] 59 (0, 0))) :
    Calls Tryd.prog 13 #[.iface 56 (.pointer (some ⟨u, 0, none⟩))] w fun e w' => e = .returned (.int .i64 ((i + 1 : Nat) : Int)) ∧ Below w.heap.size w w' := by
  obtain ⟨g0, g1, g2, g3, g4, g5, g6, g7, g8, g9, g10, g11, g12, g13, g14, g15, g16, g17, g18, g19⟩ := num_cells H
  have H := Lib.hid H
  go_enter Tryd.func13, Tryd.ntmps13
  go_wp2_with fail
  obtain ⟨w1, hw1⟩ : ∃ w1, w1 = w.alloc (Obj.cells (errList a) 27) := ⟨_, rfl⟩
  have hcl : ∀ m, m < 20 → w1.cell? ⟨w.heap.size, m, none⟩ = some (.iface 123 (.pointer (some (a m)))) := by
    intro m hm
    rw [hw1, cell_of_block (heap_alloc_new w _)]
    exact errList_at a m hm
  have hb1 : Below w.heap.size w w1 := by rw [hw1]; exact (Below.refl _ _).alloc (Nat.le_refl _) _
  have H1 := Lib.hid (H.out.below hb1)
  have hw := Lib.hid (cell_of_block ((hb1.block g (block_lt hg)).trans hg) 2)
  have hw2 := Lib.hid (cell_of_block ((hb1.block u (block_lt hu)).trans hu) 2)
  clear hg hu
  have hcl := Lib.hid hcl
  unfold errList at hw1
  rw [← hw1]
  clear hw1 H
  clear g0 g1 g2 g3 g4 g5 g6 g7 g8 g9 g10 g11 g12 g13 g14 g15 g16 g17 g18 g19
  go_loop [31] (fun j => ∃ m : Nat, m ≤ i ∧ j = .int .i64 m) (fun j => i - (intOf j).toNat)
  case atStart => exact ⟨0, Nat.zero_le _, rfl⟩
  case round =>
    obtain ⟨m, hm, rfl⟩ := hrel
    have hc := hcl.out m (by omega)
    by_cases hlt : m < i
    · obtain ⟨c1, t1, o1⟩ := H1.out.obj i hi
      obtain ⟨c2, t2, o2⟩ := H1.out.obj m (by show m < 20; omega)
      have hne : a i ≠ a m := fun e => by have := H1.out.inj i m hi (by show m < 20; omega) e; omega
      have o1 := Lib.hid o1
      have o2 := Lib.hid o2
      have hne := Lib.hid hne
      go_wp2_with fail
      refine (is_wrap2_other u 0 g 0 (a m) (a i) c1 c2 t1 t2 _ hw2.out hw.out hne.out o1.out o2.out).mono ?_
      rintro e w2 ⟨rfl, rfl⟩
      go_wp2_with fail
      exact ⟨⟨m + 1, by omega, by go_num⟩, by simp [intOf]; omega⟩
    · obtain rfl : m = i := by omega
      go_wp2_with fail
      refine (is_wrap2_same u 0 g 0 (a m) _ hw2.out hw.out).mono ?_
      rintro e w2 ⟨rfl, rfl⟩
      go_wp2_with fail
      go_ret
      exact ⟨rfl, hb1⟩


end Go.Proofs.YtebfjpagecakjaaDoor
