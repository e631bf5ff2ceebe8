/- baileenum.Err; the methods of *params.Wrong; params.Field of a sentinel, of nil. -/
import Derived.Test.YtebfjpagecakjaaDoorWrong3
import Derived.Test.YtebfjpagecakjaaDoorFig
import Derived.Test.YtebfjpagecakjaaDoorShelf
import Derived.Lib.AppendIntMem
import Derived.Lib.SmallJoins
import Derived.Test.YtebfjpagecakjaaDoorOnL
namespace Go.Proofs.YtebfjpagecakjaaDoor
open Go.RowKit

def errE (z : Nat → Addr) (k : Nat) : Value := if k = 0 then .nilIface else .iface 123 (.pointer (some (z (k - 1))))
def errL (z : Nat → Addr) : Array Value := #[.nilIface, .iface 123 (.pointer (some (z 0))), .iface 123 (.pointer (some (z 1))), .iface 123 (.pointer (some (z 2))), .iface 123 (.pointer (some (z 3))), .iface 123 (.pointer (some (z 4))), .iface 123 (.pointer (some (z 5))), .iface 123 (.pointer (some (z 6))), .iface 123 (.pointer (some (z 7))), .iface 123 (.pointer (some (z 8))), .iface 123 (.pointer (some (z 9))), .iface 123 (.pointer (some (z 10))), .iface 123 (.pointer (some (z 11))), .iface 123 (.pointer (some (z 12))), .iface 123 (.pointer (some (z 13))), .iface 123 (.pointer (some (z 14))), .iface 123 (.pointer (some (z 15))), .iface 123 (.pointer (some (z 16))), .iface 123 (.pointer (some (z 17))), .iface 123 (.pointer (some (z 18))), .iface 123 (.pointer (some (z 19)))]
theorem errL_at (z : Nat → Addr) (k : Nat) (hk : k < 21) : (errL z)[k]? = some (errE z k) := by
  match k, hk with
  | 0, _ => exact rfl
  | 1, _ => exact rfl
  | 2, _ => exact rfl
  | 3, _ => exact rfl
  | 4, _ => exact rfl
  | 5, _ => exact rfl
  | 6, _ => exact rfl
  | 7, _ => exact rfl
  | 8, _ => exact rfl
  | 9, _ => exact rfl
  | 10, _ => exact rfl
  | 11, _ => exact rfl
  | 12, _ => exact rfl
  | 13, _ => exact rfl
  | 14, _ => exact rfl
  | 15, _ => exact rfl
  | 16, _ => exact rfl
  | 17, _ => exact rfl
  | 18, _ => exact rfl
  | 19, _ => exact rfl
  | 20, _ => exact rfl
  | k + 21, h => exact absurd h (by omega)
theorem getk (l : List Value) (k : Nat) (h : k < l.length) (E : Value) (he : l[k]? = some E) : l[k] = E := by
  rw [List.getElem?_eq_getElem h] at he
  exact Option.some.inj he

set_option maxRecDepth 100000 in
set_option maxHeartbeats 1000000 in
theorem err_any (k : Nat) (hk : k < 21) (z : Nat → Addr) (w : World) (H : Errs 123 errGs w z) :
    Calls Tryd.prog 26 #[.int .i64 (k : Int)] w fun e w' => e = .returned (errE z k) ∧ Below w.heap.size w w' := by
  obtain ⟨g0, g1, g2, g3, g4, g5, g6, g7, g8, g9, g10, g11, g12, g13, g14, g15, g16, g17, g18, g19⟩ := num_cells H
  have hat := errL_at z k hk
  unfold errL at hat
  rw [List.getElem?_toArray] at hat
  have hki : (k : Int) < 21 := by omega
  have hb := Lib.hid (show Below w.heap.size w (w.alloc (.cells (errL z) 27)) from (Below.refl _ _).alloc (Nat.le_refl _) _)
  replace H := Lib.hid H
  generalize hE : errE z k = E at *
  replace hE := Lib.hid hE
  replace hat := Lib.hid hat
  go_enter Tryd.func26, Tryd.ntmps26
  go_wp2_with fail
  go_ret
  exact ⟨congrArg Ending.returned (getk _ k _ _ hat.out), hb.out⟩

theorem field_nil (w : World) : Calls Tryd.prog 18 #[.nilIface] w fun e w' => e = .returned (.tuple #[.string ⟨#[]⟩, .int .i64 0, .bool false]) ∧ Below w.heap.size w w' := by
  have hb0 := Lib.hid ((Below.refl w.heap.size w).alloc (Nat.le_refl _) (.cells #[.pointer none] 56))
  go_enter Tryd.func18, Tryd.ntmps18
  go_wp2_with fail
  with_reducible refine (as_nil _ _).mono ?_
  rintro e w2 ⟨rfl, rfl⟩
  go_wp2_with fail
  go_ret3
  exact ⟨rfl, hb0.out⟩
theorem field_miss (z : Addr) (w : World) (hT : TypeVar w) : Calls Tryd.prog 18 #[.iface 123 (.pointer (some z))] w fun e w' => e = .returned (.tuple #[.string ⟨#[]⟩, .int .i64 0, .bool false]) ∧ Below w.heap.size w w' := by
  have hb0 := (Below.refl w.heap.size w).alloc (Nat.le_refl _) (.cells #[.pointer none] 56)
  have hT1 := hT.below hb0
  have hcall := Lib.hid (as_miss z ⟨w.heap.size, 0, none⟩ (.pointer none) (w.alloc (.cells #[.pointer none] 56)) hT1 (by simp))
  replace hb0 := Lib.hid hb0
  clear hT hT1
  go_enter Tryd.func18, Tryd.ntmps18
  go_wp2_with fail
  with_reducible refine hcall.out.mono ?_
  rintro e w2 ⟨rfl, hb2⟩
  have hb3 := Lib.hid (hb0.out.trans (hb2.mono hb0.out.size))
  clear hb2 hcall
  go_wp2_with fail
  go_ret3
  exact ⟨rfl, hb3.out⟩
theorem unwrap_any (g : Nat) (F : ByteArray) (V : Int) (E : Value) (w : World) (hg : w.heap[g]? = some (.cells #[.string F, .int .i64 V, E] 59 (0, 0))) :
    Calls Tryd.prog 29 #[.pointer (some ⟨g, 0, none⟩)] w fun e w' => e = .returned E ∧ w = w' := by
  obtain ⟨⟨d0, d1, d2⟩, _⟩ := cells3 hg
  clear hg
  go_enter Tryd.func29, Tryd.ntmps29
  go_wp2_with fail
  go_ret
  exact ⟨rfl, rfl⟩

/-- A text of the error: the field, a blank, the number. -/
def wrongText (F : ByteArray) (V : Int) : ByteArray := F ++ ⟨#[32]⟩ ++ ⟨(Lib.itoa V).toArray⟩
theorem tab10 {w w' : World} (h : Lib.TabIs Tryd.prog w "internal/strconv.uint64pow10" .u64 Lib.pow10Tab) (hb : Below w.heap.size w w') : Lib.TabIs Tryd.prog w' "internal/strconv.uint64pow10" .u64 Lib.pow10Tab :=
  Go.Joins.tab_stays (g := 21) (by kernel_rfl) h hb (Nat.le_refl _)
theorem itoa_any (V : Int) (hV : -9223372036854775808 ≤ V ∧ V ≤ 9223372036854775807) (w : World) (hT : Lib.TabIs Tryd.prog w "internal/strconv.uint64pow10" .u64 Lib.pow10Tab) :
    Calls Tryd.prog 36 #[.int .i64 V] w fun e w' => e = .returned (.string ⟨(Lib.itoa V).toArray⟩) ∧ Below w.heap.size w w' := by
  refine (Tryd.strconv_Itoa V hV.1 hV.2 w hT).mono ?_
  rintro e w' ⟨rfl, k, os, rfl⟩
  exact ⟨rfl, Lib.below_grow _ _ (Nat.le_refl _) _ _⟩

end Go.Proofs.YtebfjpagecakjaaDoor
