/- Walks over params.bounds, params.Check. -/
import Derived.Test.YtahnicbokdbjdaaDoorF11BytesSaid20
import Derived.LoopN
import Derived.Test.YtahnicbokdbjdaaDoorF1BytesSaid20
import Derived.Deep.CutRange
namespace Go.Proofs.YtahnicbokdbjdaaDoor
open Go.RowKit

/-- The sentinels that parameters name. -/
def parGs : List Nat := [0, 7, 17]
abbrev ParErrs (w : World) (z : Nat → Addr) : Prop := Errs 132 parGs w z
theorem ParErrs.range {w : World} {z : Nat → Addr} (h : ParErrs w z) : w.cell? ⟨0, 0, none⟩ = some (.iface 132 (.pointer (some (z 0)))) := h.var 0 (by decide)
theorem ParErrs.size {w : World} {z : Nat → Addr} (h : ParErrs w z) : w.cell? ⟨7, 0, none⟩ = some (.iface 132 (.pointer (some (z 1)))) := h.var 1 (by decide)
theorem ParErrs.budget {w : World} {z : Nat → Addr} (h : ParErrs w z) : w.cell? ⟨17, 0, none⟩ = some (.iface 132 (.pointer (some (z 2)))) := h.var 2 (by decide)

def parV (s n k d t r : Int) : Value := .agg #[.int .i64 s, .int .i64 n, .int .i64 k, .int .i64 d, .int .i64 t, .int .i64 r]
theorem cell_far1 {w : World} {x : Addr} {v : Value} (h : w.cell? x = some v) (o1 : Obj) : (w.alloc o1).cell? x = some v :=
  (((Below.refl w.heap.size w).alloc (Nat.le_refl _) o1).cell (World.block_lt_of_cell? w _ h)).trans h
theorem cell_far2 {w : World} {x : Addr} {v : Value} (h : w.cell? x = some v) (o1 o2 : Obj) : ((w.alloc o1).alloc o2).cell? x = some v := cell_far1 (cell_far1 h o1) o2

def bndA (s n k d t r M : Int) (z : Nat → Addr) : Array Value := #[
  .string ⟨#[115, 105, 122, 101]⟩, .int .i64 s, .int .i64 0, .int .i64 2000, .iface 132 (.pointer (some (z 1))),
  .string ⟨#[115, 101, 110, 116, 105, 110, 101, 108, 115]⟩, .int .i64 n, .int .i64 0, .int .i64 8, .iface 132 (.pointer (some (z 2))),
  .string ⟨#[115, 112, 111, 116, 115]⟩, .int .i64 k, .int .i64 1, .int .i64 M, .iface 132 (.pointer (some (z 0))),
  .string ⟨#[112, 101, 114, 105, 111, 100]⟩, .int .i64 d, .int .i64 1, .int .i64 10000, .iface 132 (.pointer (some (z 0))),
  .string ⟨#[112, 97, 116, 105, 101, 110, 99, 101]⟩, .int .i64 t, .int .i64 1, .int .i64 d, .iface 132 (.pointer (some (z 0))),
  .string ⟨#[114, 101, 116, 114, 105, 101, 115]⟩, .int .i64 r, .int .i64 0, .int .i64 5, .iface 132 (.pointer (some (z 0)))]
def bndV (s n k d t r M : Int) (z : Nat → Addr) : Value := .agg (bndA s n k d t r M z)

set_option maxRecDepth 10000 in
set_option maxHeartbeats 1000000 in
theorem bounds_any (s n k d t r c : Int) (z : Nat → Addr) (w : World) (hE : ParErrs w z) :
    Calls Tryd.prog 44 #[parV s n k d t r, .int .i64 c] w fun e w' => ∃ M, (12 ≤ c → M = 12) ∧ e = .returned (bndV s n k d t r M z) ∧ Below w.heap.size w w' := by
  have h1 := hE.range
  have h2 := hE.size
  have h3 := hE.budget
  have q1 := cell_far2 h1
  have q2 := cell_far2 h2
  have q3 := cell_far2 h3
  clear h1 h2 h3
  have hb0 := Lib.hid (Below.refl w.heap.size w)
  unfold parV
  rcases (show c < 12 ∨ c = 12 ∨ 12 < c from by omega) with hc | rfl | hc
  · go_enter Tryd.func44, Tryd.ntmps44
    go_upto_region 1 with fail
    generalize hz : (#[
      .string ⟨#[]⟩, .int .i64 0, .int .i64 0, .int .i64 0, .nilIface, .string ⟨#[]⟩, .int .i64 0, .int .i64 0, .int .i64 0, .nilIface, .string ⟨#[]⟩, .int .i64 0, .int .i64 0, .int .i64 0, .nilIface,
      .string ⟨#[]⟩, .int .i64 0, .int .i64 0, .int .i64 0, .nilIface, .string ⟨#[]⟩, .int .i64 0, .int .i64 0, .int .i64 0, .nilIface, .string ⟨#[]⟩, .int .i64 0, .int .i64 0, .int .i64 0, .nilIface] : Array Value) = zb
    replace hz : zb.size = 30 := by rw [← hz]; rfl
    go_wp2_with (refine wpList_store_new (w := w.alloc _) rfl 91 (.tmp 4) (.tmp 33) rfl _ (bndA s n k d t r c z) (by simp only [World.size_alloc]; rfl) rfl (by kernel_rfl) (by rw [hz]; rfl) (by simp [bndA, Value.oneCell']) ?_)
    refine ret_cell_new (w := w.alloc _) (c := bndA s n k d t r c z) rfl (by simp only [World.size_alloc]; rfl) Tryd.underlying91 (by kernel_rfl) ?_
    exact ⟨c, by omega, rfl, (hb0.out.alloc (Nat.le_refl _) _).alloc (by simp) _⟩
  · go_enter Tryd.func44, Tryd.ntmps44
    go_upto_region 1 with fail
    generalize hz : (#[
      .string ⟨#[]⟩, .int .i64 0, .int .i64 0, .int .i64 0, .nilIface, .string ⟨#[]⟩, .int .i64 0, .int .i64 0, .int .i64 0, .nilIface, .string ⟨#[]⟩, .int .i64 0, .int .i64 0, .int .i64 0, .nilIface,
      .string ⟨#[]⟩, .int .i64 0, .int .i64 0, .int .i64 0, .nilIface, .string ⟨#[]⟩, .int .i64 0, .int .i64 0, .int .i64 0, .nilIface, .string ⟨#[]⟩, .int .i64 0, .int .i64 0, .int .i64 0, .nilIface] : Array Value) = zb
    replace hz : zb.size = 30 := by rw [← hz]; rfl
    go_wp2_with (refine wpList_store_new (w := w.alloc _) rfl 91 (.tmp 4) (.tmp 33) rfl _ (bndA s n k d t r 12 z) (by simp only [World.size_alloc]; rfl) rfl (by kernel_rfl) (by rw [hz]; rfl) (by simp [bndA, Value.oneCell']) ?_)
    refine ret_cell_new (w := w.alloc _) (c := bndA s n k d t r 12 z) rfl (by simp only [World.size_alloc]; rfl) Tryd.underlying91 (by kernel_rfl) ?_
    exact ⟨12, by omega, rfl, (hb0.out.alloc (Nat.le_refl _) _).alloc (by simp) _⟩
  · go_enter Tryd.func44, Tryd.ntmps44
    go_upto_region 1 with fail
    generalize hz : (#[
      .string ⟨#[]⟩, .int .i64 0, .int .i64 0, .int .i64 0, .nilIface, .string ⟨#[]⟩, .int .i64 0, .int .i64 0, .int .i64 0, .nilIface, .string ⟨#[]⟩, .int .i64 0, .int .i64 0, .int .i64 0, .nilIface,
      .string ⟨#[]⟩, .int .i64 0, .int .i64 0, .int .i64 0, .nilIface, .string ⟨#[]⟩, .int .i64 0, .int .i64 0, .int .i64 0, .nilIface, .string ⟨#[]⟩, .int .i64 0, .int .i64 0, .int .i64 0, .nilIface] : Array Value) = zb
    replace hz : zb.size = 30 := by rw [← hz]; rfl
    go_wp2_with (refine wpList_store_new (w := w.alloc _) rfl 91 (.tmp 4) (.tmp 33) rfl _ (bndA s n k d t r 12 z) (by simp only [World.size_alloc]; rfl) rfl (by kernel_rfl) (by rw [hz]; rfl) (by simp [bndA, Value.oneCell']) ?_)
    refine ret_cell_new (w := w.alloc _) (c := bndA s n k d t r 12 z) rfl (by simp only [World.size_alloc]; rfl) Tryd.underlying91 (by kernel_rfl) ?_
    exact ⟨12, by omega, rfl, (hb0.out.alloc (Nat.le_refl _) _).alloc (by simp) _⟩

end Go.Proofs.YtahnicbokdbjdaaDoor
