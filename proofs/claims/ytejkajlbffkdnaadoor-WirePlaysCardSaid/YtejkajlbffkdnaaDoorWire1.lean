/- Walks over wire: the row of a way, message, Len, Count, New. (Printed by n24/on/genwire1.py.) -/
import Derived.Test.YtejkajlbffkdnaaDoorWireL
import Derived.Test.YtejkajlbffkdnaaDoorSent
import Derived.Test.YtejkajlbffkdnaaDoorStoreRow
namespace Go.Proofs.YtejkajlbffkdnaaDoor
open Go.RowKit

/-- The five sentinels of wire. -/
structure WErr (w : World) (e : Nat → Addr) : Prop where
  kind : w.cell? ⟨0, 0, none⟩ = some (.iface 85 (.pointer (some (e 0))))
  none_ : w.cell? ⟨11, 0, none⟩ = some (.iface 85 (.pointer (some (e 1))))
  size : w.cell? ⟨1, 0, none⟩ = some (.iface 85 (.pointer (some (e 2))))
  long : w.cell? ⟨2, 0, none⟩ = some (.iface 85 (.pointer (some (e 3))))
  full : w.cell? ⟨3, 0, none⟩ = some (.iface 85 (.pointer (some (e 4))))
theorem WErr.below {w w' : World} {e : Nat → Addr} {B : Nat} (h : WErr w e) (hb : Below B w w') (hB : 12 ≤ B) : WErr w' e :=
  ⟨(hb.cell (p := ⟨0, 0, none⟩) (Nat.lt_of_lt_of_le (by decide) hB)).trans h.kind, (hb.cell (p := ⟨11, 0, none⟩) (Nat.lt_of_lt_of_le (by decide) hB)).trans h.none_, (hb.cell (p := ⟨1, 0, none⟩) (Nat.lt_of_lt_of_le (by decide) hB)).trans h.size, (hb.cell (p := ⟨2, 0, none⟩) (Nat.lt_of_lt_of_le (by decide) hB)).trans h.long, (hb.cell (p := ⟨3, 0, none⟩) (Nat.lt_of_lt_of_le (by decide) hB)).trans h.full⟩
def errV (x : Addr) : Value := .iface 85 (.pointer (some x))

set_option maxHeartbeats 400000 in
theorem wnew_any (w : World) : Calls Tryd.prog 7 #[] w fun e w' => e = .returned (.pointer (some ⟨w.heap.size, 0, none⟩)) ∧ w' = w.alloc (.cells (wcells ⟨0, 0, 0, .slice none 0 0, []⟩ ⟨0, 0, 0, .slice none 0 0, []⟩) 54) := by
  go_enter Tryd.func7, Tryd.ntmps7
  go_wp2_with fail
  go_ret
  exact ⟨rfl, rfl⟩
theorem wnew_wire (w : World) (base : Nat) (hb : base ≤ w.heap.size) : Wire base (w.alloc (.cells (wcells ⟨0, 0, 0, .slice none 0 0, []⟩ ⟨0, 0, 0, .slice none 0 0, []⟩) 54)) w.heap.size 54 ⟨0, 0, 0, .slice none 0 0, []⟩ ⟨0, 0, 0, .slice none 0 0, []⟩ :=
  have hk (w' : World) : WayOk base w' ⟨0, 0, 0, .slice none 0 0, []⟩ := ⟨⟨rfl, .inl ⟨rfl, rfl⟩⟩, fun _ h => (by cases h), (by decide)⟩
  ⟨heap_alloc_new w _, hb, hk _, hk _, (by simp [Way.blks, Value.ownBlock]), (by simp [Way.blks, Value.ownBlock]), (by intro x hx; simp [Way.blks, Value.ownBlock] at hx)⟩

set_option maxHeartbeats 400000 in
theorem wrow_bad (W : Nat) (n : Int) (h0 : n ≠ 0) (h1 : n ≠ 1) (w : World) : Calls Tryd.prog 19 #[.pointer (some ⟨W, 0, none⟩), .int .i64 n] w fun e w' => e = .returned (.pointer none) ∧ w' = w := by
  have k0 : (n != 0) = true := by simp [h0]
  have k1 : (n != 1) = true := by simp [h1]
  go_enter Tryd.func19, Tryd.ntmps19
  go_wp2_with fail
  go_ret
  exact ⟨rfl, rfl⟩
set_option maxHeartbeats 400000 in
theorem wmsg_bad (W : Nat) (n i : Int) (h0 : n ≠ 0) (h1 : n ≠ 1) (w : World) (e : Nat → Addr) (hE : WErr w e) : Calls Tryd.prog 21 #[.pointer (some ⟨W, 0, none⟩), .int .i64 n, .int .i64 i] w fun x w' => x = .returned (.tuple #[.pointer none, .iface 85 (.pointer (some (e 0)))]) ∧ Drawn w w' := by
  have hk := hE.kind
  go_enter Tryd.func21, Tryd.ntmps21
  go_wp2_with ((go_at_call 19; ((with_reducible refine (wrow_bad W n h0 h1 _).mono ?_); rintro e w' ⟨rfl, rfl⟩)))
  all_goals (go_quiet (fail))
  go_wp2_with fail
  go_ret2
  exact ⟨rfl, _, rfl⟩

/-! ### Way 0 -/
set_option maxHeartbeats 400000 in
theorem wrow0 (W : Nat) (w : World) : Calls Tryd.prog 19 #[.pointer (some ⟨W, 0, none⟩), .int .i64 0] w fun e w' => e = .returned (.pointer (some ⟨W, 0, none⟩)) ∧ w' = w := by
  go_enter Tryd.func19, Tryd.ntmps19
  go_wp2_with fail
  go_ret
  exact ⟨rfl, rfl⟩
set_option maxHeartbeats 400000 in
theorem wlen0 (W : Nat) (a : Option Addr) (m c : Nat) (w : World) (h : w.cell? ⟨W, 3, none⟩ = some (.slice a m c)) :
    Calls Tryd.prog 15 #[.pointer (some ⟨W, 0, none⟩), .int .i64 0] w fun e w' => e = .returned (.int .i64 m) ∧ w' = w := by
  go_enter Tryd.func15, Tryd.ntmps15
  go_wp2_with ((go_at_call 19; ((with_reducible refine (wrow0 _ _).mono ?_); rintro e w' ⟨rfl, rfl⟩)))
  go_ret
  exact ⟨rfl, rfl⟩
set_option maxHeartbeats 400000 in
theorem wcount0 (W : Nat) (i o l : Int) (w : World) (h0 : w.cell? ⟨W, 0, none⟩ = some (.int .i64 i)) (h1 : w.cell? ⟨W, 1, none⟩ = some (.int .i64 o)) (h2 : w.cell? ⟨W, 2, none⟩ = some (.int .i64 l)) :
    Calls Tryd.prog 14 #[.pointer (some ⟨W, 0, none⟩), .int .i64 0] w fun e w' => e = .returned (.agg #[.int .i64 i, .int .i64 o, .int .i64 l]) ∧ Below w.heap.size w w' := by
  have hlt := World.block_lt_of_cell? w _ h0
  simp only at hlt
  go_enter Tryd.func14, Tryd.ntmps14
  go_wp2_with ((go_at_call 19; ((with_reducible refine (wrow0 _ _).mono ?_); rintro e w' ⟨rfl, rfl⟩)))
  refine ret_cell_row rfl rfl Tryd.underlying38 rfl (by kernel_rfl) (heap_alloc_new w _) ?_
  exact ⟨rfl, (Below.refl _ _).alloc (Nat.le_refl _) _⟩
set_option maxHeartbeats 400000 in
/-- A message that isn't there. -/
theorem wmsg_no0 (W : Nat) (i : Int) (a : Option Addr) (m c : Nat) (w : World) (h : w.cell? ⟨W, 3, none⟩ = some (.slice a m c)) (hi : i < 0 ∨ (m : Int) ≤ i) (e : Nat → Addr) (hE : WErr w e) :
    Calls Tryd.prog 21 #[.pointer (some ⟨W, 0, none⟩), .int .i64 0, .int .i64 i] w fun x w' => x = .returned (.tuple #[.pointer none, .iface 85 (.pointer (some (e 1)))]) ∧ Drawn w w' := by
  have hk := hE.none_
  by_cases hn : i < 0
  · go_enter Tryd.func21, Tryd.ntmps21
    go_wp2_with ((go_at_call 19; ((with_reducible refine (wrow0 _ _).mono ?_); rintro e w' ⟨rfl, rfl⟩)))
    all_goals (go_quiet (fail))
    go_wp2_with fail
    go_ret2
    exact ⟨rfl, _, rfl⟩
  · have hm : (m : Int) ≤ i := by omega
    clear hi
    go_enter Tryd.func21, Tryd.ntmps21
    go_wp2_with ((go_at_call 19; ((with_reducible refine (wrow0 _ _).mono ?_); rintro e w' ⟨rfl, rfl⟩)))
    all_goals (go_quiet (fail))
    go_wp2_with fail
    go_ret2
    exact ⟨rfl, _, rfl⟩
set_option maxHeartbeats 400000 in
/-- A message that is there. -/
theorem wmsg_yes0 (W : Nat) (i : Nat) (a : Option Addr) (m c : Nat) (w : World) (h : w.cell? ⟨W, 3, none⟩ = some (.slice a m c)) (hi : i < m) :
    Calls Tryd.prog 21 #[.pointer (some ⟨W, 0, none⟩), .int .i64 0, .int .i64 i] w fun x w' => x = .returned (.tuple #[.pointer (some ⟨W, 0, none⟩), .nilIface]) ∧ w' = w := by
  have hi2 : ¬ ((i : Int) < 0) := by omega
  have hi3 : ¬ ((m : Int) ≤ (i : Int)) := by omega
  go_enter Tryd.func21, Tryd.ntmps21
  go_wp2_with ((go_at_call 19; ((with_reducible refine (wrow0 _ _).mono ?_); rintro e w' ⟨rfl, rfl⟩)))
  go_ret2
  exact ⟨rfl, rfl⟩

/-! ### Way 1 -/
set_option maxHeartbeats 400000 in
theorem wrow1 (W : Nat) (w : World) : Calls Tryd.prog 19 #[.pointer (some ⟨W, 0, none⟩), .int .i64 1] w fun e w' => e = .returned (.pointer (some ⟨W, 4, none⟩)) ∧ w' = w := by
  go_enter Tryd.func19, Tryd.ntmps19
  go_wp2_with fail
  go_ret
  exact ⟨rfl, rfl⟩
set_option maxHeartbeats 400000 in
theorem wlen1 (W : Nat) (a : Option Addr) (m c : Nat) (w : World) (h : w.cell? ⟨W, 7, none⟩ = some (.slice a m c)) :
    Calls Tryd.prog 15 #[.pointer (some ⟨W, 0, none⟩), .int .i64 1] w fun e w' => e = .returned (.int .i64 m) ∧ w' = w := by
  go_enter Tryd.func15, Tryd.ntmps15
  go_wp2_with ((go_at_call 19; ((with_reducible refine (wrow1 _ _).mono ?_); rintro e w' ⟨rfl, rfl⟩)))
  go_ret
  exact ⟨rfl, rfl⟩
set_option maxHeartbeats 400000 in
theorem wcount1 (W : Nat) (i o l : Int) (w : World) (h0 : w.cell? ⟨W, 4, none⟩ = some (.int .i64 i)) (h1 : w.cell? ⟨W, 5, none⟩ = some (.int .i64 o)) (h2 : w.cell? ⟨W, 6, none⟩ = some (.int .i64 l)) :
    Calls Tryd.prog 14 #[.pointer (some ⟨W, 0, none⟩), .int .i64 1] w fun e w' => e = .returned (.agg #[.int .i64 i, .int .i64 o, .int .i64 l]) ∧ Below w.heap.size w w' := by
  have hlt := World.block_lt_of_cell? w _ h0
  simp only at hlt
  go_enter Tryd.func14, Tryd.ntmps14
  go_wp2_with ((go_at_call 19; ((with_reducible refine (wrow1 _ _).mono ?_); rintro e w' ⟨rfl, rfl⟩)))
  refine ret_cell_row rfl rfl Tryd.underlying38 rfl (by kernel_rfl) (heap_alloc_new w _) ?_
  exact ⟨rfl, (Below.refl _ _).alloc (Nat.le_refl _) _⟩
set_option maxHeartbeats 400000 in
/-- A message that isn't there. -/
theorem wmsg_no1 (W : Nat) (i : Int) (a : Option Addr) (m c : Nat) (w : World) (h : w.cell? ⟨W, 7, none⟩ = some (.slice a m c)) (hi : i < 0 ∨ (m : Int) ≤ i) (e : Nat → Addr) (hE : WErr w e) :
    Calls Tryd.prog 21 #[.pointer (some ⟨W, 0, none⟩), .int .i64 1, .int .i64 i] w fun x w' => x = .returned (.tuple #[.pointer none, .iface 85 (.pointer (some (e 1)))]) ∧ Drawn w w' := by
  have hk := hE.none_
  by_cases hn : i < 0
  · go_enter Tryd.func21, Tryd.ntmps21
    go_wp2_with ((go_at_call 19; ((with_reducible refine (wrow1 _ _).mono ?_); rintro e w' ⟨rfl, rfl⟩)))
    all_goals (go_quiet (fail))
    go_wp2_with fail
    go_ret2
    exact ⟨rfl, _, rfl⟩
  · have hm : (m : Int) ≤ i := by omega
    clear hi
    go_enter Tryd.func21, Tryd.ntmps21
    go_wp2_with ((go_at_call 19; ((with_reducible refine (wrow1 _ _).mono ?_); rintro e w' ⟨rfl, rfl⟩)))
    all_goals (go_quiet (fail))
    go_wp2_with fail
    go_ret2
    exact ⟨rfl, _, rfl⟩
set_option maxHeartbeats 400000 in
/-- A message that is there. -/
theorem wmsg_yes1 (W : Nat) (i : Nat) (a : Option Addr) (m c : Nat) (w : World) (h : w.cell? ⟨W, 7, none⟩ = some (.slice a m c)) (hi : i < m) :
    Calls Tryd.prog 21 #[.pointer (some ⟨W, 0, none⟩), .int .i64 1, .int .i64 i] w fun x w' => x = .returned (.tuple #[.pointer (some ⟨W, 4, none⟩), .nilIface]) ∧ w' = w := by
  have hi2 : ¬ ((i : Int) < 0) := by omega
  have hi3 : ¬ ((m : Int) ≤ (i : Int)) := by omega
  go_enter Tryd.func21, Tryd.ntmps21
  go_wp2_with ((go_at_call 19; ((with_reducible refine (wrow1 _ _).mono ?_); rintro e w' ⟨rfl, rfl⟩)))
  go_ret2
  exact ⟨rfl, rfl⟩

end Go.Proofs.YtejkajlbffkdnaaDoor
