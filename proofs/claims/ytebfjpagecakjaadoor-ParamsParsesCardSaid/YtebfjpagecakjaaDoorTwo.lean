/- Walks over params.two, params.Parse, the reference's Parse. -/
import Derived.Test.YtebfjpagecakjaaDoorCheck
import Derived.Test.YtebfjpagecakjaaDoorStoreRow
import Derived.Deep.QuietTactic
import Derived.Deep.CutRange
import Derived.Deep.RegionWith
namespace Go.Proofs.YtebfjpagecakjaaDoor
open Go.RowKit

theorem or_two (x y : UInt8) : bits BinOp.or IntKind.i64 ((x.toNat : Int) * 256) (y.toNat : Int) = (x.toNat : Int) * 256 + y.toNat := by
  have hx := x.toNat_lt
  have hy := y.toNat_lt
  have e0 : ((x.toNat : Int) * 256) = ((256 * x.toNat : Nat) : Int) := by omega
  rw [e0]
  have e1 : (BitVec.ofInt 64 ((256 * x.toNat : Nat) : Int)).toNat = 256 * x.toNat := by rw [BitVec.ofInt_natCast, BitVec.toNat_ofNat]; exact Nat.mod_eq_of_lt (by omega)
  have e2 : (BitVec.ofInt 64 (y.toNat : Int)).toNat = y.toNat := by rw [BitVec.ofInt_natCast, BitVec.toNat_ofNat]; exact Nat.mod_eq_of_lt (by omega)
  have e3 : 256 * x.toNat ||| y.toNat = 256 * x.toNat + y.toNat := (Nat.two_pow_add_eq_or_of_lt (i := 8) (by omega) x.toNat).symm
  show IntKind.i64.wrap ((BitVec.ofInt 64 ((256 * x.toNat : Nat) : Int) ||| BitVec.ofInt 64 (y.toNat : Int)).toNat : Int) = _
  rw [BitVec.toNat_or, e1, e2, e3, IntKind.wrap_i64]
  omega

set_option maxHeartbeats 1000000 in
theorem two_any (b off m c : Nat) (x y : UInt8) (w : World) (h0 : w.cell? ⟨b, off, none⟩ = some (.int .u8 (x.toNat : Int))) (h1 : w.cell? ⟨b, off + 1, none⟩ = some (.int .u8 (y.toNat : Int))) (hm : 2 ≤ m) :
    Calls Tryd.prog 32 #[.slice (some ⟨b, off, none⟩) m c] w fun e w' => e = .returned (.int .i64 ((x.toNat : Int) * 256 + y.toNat)) ∧ ∃ n, w' = w.drewN n := by
  have hx := x.toNat_lt
  have hy := y.toNat_lt
  have m0 : (0 : Int) < (m : Int) := by omega
  have m1 : (1 : Int) < (m : Int) := by omega
  go_enter Tryd.func32, Tryd.ntmps32
  go_wp2_with fail
  go_quiet (fail)
  go_wp2_with fail
  go_ret
  exact ⟨by rw [or_two]; rfl, _, rfl⟩


/-- The result of two parts: a struct or an array that lies in block b, and what lies in a slot. -/
theorem ret_cell_tmp_row {P : Program} {fn : Func} {R : Ending → World → Prop} {p u : Tmp} {ty : TypeId} {tmps : Array Value} {W : World} {b : Nat} {c : Array Value} {y : Value} {d : TypeDesc} (h : fn.results = #[.cell p ty, .tmp u])
    (hp : tmps.getD p undef = .pointer (some ⟨b, 0, none⟩)) (hy : tmps.getD u undef = y) (hu : P.underlying ty = some d) (hd : (match d with | .struct _ | .array _ _ => true | _ => false) = true) (hi : (P.info? ty).map (·.size) = some c.size) (hh : W.heap[b]? = some (.cells c ty (0, 0))) (hR : R (.returned (.tuple #[.agg c, y])) W) :
    bodyPost P fn R .ret ⟨tmps, []⟩ W := by
  refine bodyPost_ret (v := .tuple #[.agg c, y]) ?_ rfl hR
  have hr : (results fn tmps).run P W = ((asAddr (tmps.getD p undef)).run P W).andThen fun a w₁ => ((loadVar ty a).run P w₁).andThen fun v w₂ => .ok (.tuple #[v, tmps.getD u undef]) w₂ := by
    simp only [results, h]
    simp [Sem.run_bind, Result.andThen]
  rw [hr, hp, hy]
  simp [asAddr, Result.andThen, run_loadVar_row W b ty ty c (0, 0) d hh hu hd hi]

set_option maxHeartbeats 2000000 in
theorem parse_len (a : Option Addr) (m c : Nat) (hm : m ≠ 9) (z : Addr) (w : World) (hz : w.cell? ⟨0, 0, none⟩ = some (.iface 123 (.pointer (some z)))) :
    Calls Tryd.prog 11 #[.slice a m c] w fun e w' => e = .returned (.tuple #[.agg #[.int .i64 0, .int .i64 0, .int .i64 0, .int .i64 0, .int .i64 0, .int .i64 0], .iface 123 (.pointer (some z))]) ∧ Below w.heap.size w w' := by
  have hf : ((m : Int) != 9) = true := by rw [bne_iff_ne]; omega
  have hz1 := cell_far1 hz
  have hb0 := Lib.hid (Below.refl w.heap.size w)
  clear hz hm
  go_enter Tryd.func11, Tryd.ntmps11
  go_wp2_with fail
  go_region
  all_goals
    go_wp2
    refine ret_cell_tmp_row rfl rfl rfl Tryd.underlying24 rfl (by kernel_rfl) (b := w.heap.size) (c := #[.int .i64 0, .int .i64 0, .int .i64 0, .int .i64 0, .int .i64 0, .int .i64 0]) (heap_alloc_new w _) ?_
    exact ⟨rfl, below_drewN (hb0.out.alloc (Nat.le_refl _) _) 1⟩

end Go.Proofs.YtebfjpagecakjaaDoor
