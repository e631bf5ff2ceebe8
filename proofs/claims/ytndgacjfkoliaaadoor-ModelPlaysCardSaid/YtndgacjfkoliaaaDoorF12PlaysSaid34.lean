/- Walks over params.Check. -/
import Derived.Test.YtndgacjfkoliaaaDoorF11PlaysSaid34
namespace Go.Proofs.YtndgacjfkoliaaaDoor
open Go.RowKit

def ParOk (s n k d t r : Int) : Prop := (0 ≤ s ∧ s ≤ 2000) ∧ (0 ≤ n ∧ n ≤ 8) ∧ (1 ≤ k ∧ k ≤ 12) ∧ (1 ≤ d ∧ d ≤ 10000) ∧ (1 ≤ t ∧ t ≤ d) ∧ (0 ≤ r ∧ r ≤ 5)
theorem total_bd (n : Int) (h : 0 ≤ n ∧ n ≤ 2000) : 33 ≤ totalOf n ∧ totalOf n ≤ 600 := by
  have := leftOf_bd n h
  unfold totalOf
  split <;> omega
theorem box6 {w w' : World} {a b c d e f : Value} {t : TypeId} (h : w'.heap[w.heap.size]? = some (.cells #[a, b, c, d, e, f] t (0, 0))) :
    w'.cell? ⟨w.heap.size, 0, none⟩ = some a ∧ w'.cell? ⟨w.heap.size, 1, none⟩ = some b ∧ w'.cell? ⟨w.heap.size, 2, none⟩ = some c ∧ w'.cell? ⟨w.heap.size, 3, none⟩ = some d ∧ w'.cell? ⟨w.heap.size, 4, none⟩ = some e ∧ w'.cell? ⟨w.heap.size, 5, none⟩ = some f := by
  simp [cell_of_block h]

theorem idx0 (s n k d t r M : Int) (z : Nat → Addr) (w : World) : (Instr.index 88 (bndV s n k d t r M z) (.int .i64 0)).run Tryd.prog w = .ok (.agg #[.string ⟨#[115, 105, 122, 101]⟩, .int .i64 s, .int .i64 0, .int .i64 2000, .iface 137 (.pointer (some (z 1)))]) w := by kernel_rfl
theorem idx1 (s n k d t r M : Int) (z : Nat → Addr) (w : World) : (Instr.index 88 (bndV s n k d t r M z) (.int .i64 1)).run Tryd.prog w = .ok (.agg #[.string ⟨#[115, 101, 110, 116, 105, 110, 101, 108, 115]⟩, .int .i64 n, .int .i64 0, .int .i64 8, .iface 137 (.pointer (some (z 2)))]) w := by kernel_rfl
theorem idx2 (s n k d t r M : Int) (z : Nat → Addr) (w : World) : (Instr.index 88 (bndV s n k d t r M z) (.int .i64 2)).run Tryd.prog w = .ok (.agg #[.string ⟨#[115, 112, 111, 116, 115]⟩, .int .i64 k, .int .i64 1, .int .i64 M, .iface 137 (.pointer (some (z 0)))]) w := by kernel_rfl
theorem idx3 (s n k d t r M : Int) (z : Nat → Addr) (w : World) : (Instr.index 88 (bndV s n k d t r M z) (.int .i64 3)).run Tryd.prog w = .ok (.agg #[.string ⟨#[112, 101, 114, 105, 111, 100]⟩, .int .i64 d, .int .i64 1, .int .i64 10000, .iface 137 (.pointer (some (z 0)))]) w := by kernel_rfl
theorem idx4 (s n k d t r M : Int) (z : Nat → Addr) (w : World) : (Instr.index 88 (bndV s n k d t r M z) (.int .i64 4)).run Tryd.prog w = .ok (.agg #[.string ⟨#[112, 97, 116, 105, 101, 110, 99, 101]⟩, .int .i64 t, .int .i64 1, .int .i64 d, .iface 137 (.pointer (some (z 0)))]) w := by kernel_rfl
theorem idx5 (s n k d t r M : Int) (z : Nat → Addr) (w : World) : (Instr.index 88 (bndV s n k d t r M z) (.int .i64 5)).run Tryd.prog w = .ok (.agg #[.string ⟨#[114, 101, 116, 114, 105, 101, 115]⟩, .int .i64 r, .int .i64 0, .int .i64 5, .iface 137 (.pointer (some (z 0)))]) w := by kernel_rfl

theorem heap_alloc_at (w : World) (o : Obj) (n : Nat) (h : n = w.heap.size) : (w.alloc o).heap[n]? = some o := h ▸ heap_alloc_new w o
theorem bounds_lit (s n k d t r c : Int) (z : Nat → Addr) (w : World) (hE : ParErrs w z) :
    Calls Tryd.prog 37 #[.agg #[.int .i64 s, .int .i64 n, .int .i64 k, .int .i64 d, .int .i64 t, .int .i64 r], .int .i64 c] w fun e w' => ∃ M, (12 ≤ c → M = 12) ∧ e = .returned (bndV s n k d t r M z) ∧ Below w.heap.size w w' := bounds_any s n k d t r c z w hE

/-- A field that isn't right. -/
def WrongV (base : Nat) (w : World) (v : Value) (F : ByteArray) (V : Int) (x : Addr) : Prop :=
  ∃ g, v = .iface 90 (.pointer (some ⟨g, 0, none⟩)) ∧ base ≤ g ∧ w.heap[g]? = some (.cells #[.string F, .int .i64 V, .iface 137 (.pointer (some x))] 92 (0, 0))

set_option maxRecDepth 10000 in
set_option maxHeartbeats 4000000 in
theorem check_ok (s n k d t r : Int) (h : ParOk s n k d t r) (z : Nat → Addr) (w : World) (hE : ParErrs w z) :
    Calls Tryd.prog 27 #[parV s n k d t r] w fun e w' => e = .returned .nilIface ∧ Below w.heap.size w w' := by
  obtain ⟨hs, hn, hk, hd, ht, hr⟩ := h
  have hT := total_bd s hs
  have hb1 := Lib.hid ((Below.refl w.heap.size w).alloc (Nat.le_refl _) (.cells #[.int .i64 s, .int .i64 n, .int .i64 k, .int .i64 d, .int .i64 t, .int .i64 r] 34))
  have hbox := Lib.hid (heap_alloc_new w (.cells #[.int .i64 s, .int .i64 n, .int .i64 k, .int .i64 d, .int .i64 t, .int .i64 r] 34))
  have hcall := Lib.hid (total_some s hs (w.alloc (.cells #[.int .i64 s, .int .i64 n, .int .i64 k, .int .i64 d, .int .i64 t, .int .i64 r] 34)))
  replace hE := Lib.hid (hE.below hb1.out)
  generalize totalOf s = T at *
  unfold parV
  go_enter Tryd.func27, Tryd.ntmps27
  go_wp2_with fail
  with_reducible refine hcall.out.mono ?_
  rintro e w1 ⟨rfl, hb2⟩
  replace hE := Lib.hid (hE.out.below hb2)
  replace hbox := Lib.hid ((hb2.block _ (by rw [World.size_alloc]; omega)).trans hbox.out)
  replace hb1 := Lib.hid (hb1.out.trans (hb2.mono (by rw [World.size_alloc]; omega)))
  obtain ⟨c0, c1, c2, c3, c4, c5⟩ := box6 hbox.out
  clear hb2 hcall
  go_wp2_with fail
  have hcall := bounds_any s n k d t r (T + n) z w1 hE.out
  unfold parV bndV bndA at hcall
  replace hcall := Lib.hid hcall
  with_reducible refine hcall.out.mono ?_
  rintro e w2 ⟨M, hM, rfl, hb2⟩
  obtain rfl := hM (by omega)
  replace hb1 := Lib.hid (hb1.out.trans (hb2.mono hb1.out.size))
  have hsz := hb1.out.size
  clear hb2 hcall hM c0 c1 c2 c3 c4 c5 hbox hE
  go_wp2_with fail
  have i0 := idx0 s n k d t r 12 z
  have i1 := idx1 s n k d t r 12 z
  have i2 := idx2 s n k d t r 12 z
  have i3 := idx3 s n k d t r 12 z
  have i4 := idx4 s n k d t r 12 z
  have i5 := idx5 s n k d t r 12 z
  unfold bndV bndA at i0 i1 i2 i3 i4 i5
  refine wp_loop_rounds 7 ?_
  rw [rounds_succ]
  go_wp2_with fail
  rw [rounds_succ]
  go_wp2_with fail
  rw [rounds_succ]
  go_wp2_with fail
  rw [rounds_succ]
  go_wp2_with fail
  rw [rounds_succ]
  go_wp2_with fail
  rw [rounds_succ]
  go_wp2_with fail
  rw [rounds_succ]
  go_wp2_with fail
  go_ret
  exact ⟨rfl, (((((((hb1.out).alloc (by omega) _).alloc (by simp; omega) _).alloc (by simp; omega) _).alloc (by simp; omega) _).alloc (by simp; omega) _).alloc (by simp; omega) _)⟩

set_option maxRecDepth 10000 in
set_option maxHeartbeats 4000000 in
theorem check_bad0 (s n k d t r : Int) (hb : s < 0 ∨ 2000 < s) (z : Nat → Addr) (w : World) (hE : ParErrs w z) (hn : -9223372036854775808 ≤ n ∧ n ≤ 9223372036854775807) :
    Calls Tryd.prog 27 #[parV s n k d t r] w fun e w' => ∃ v, e = .returned v ∧ WrongV w.heap.size w' v ⟨#[115, 105, 122, 101]⟩ s (z 1) ∧ Below w.heap.size w w' := by
  have hb1 := Lib.hid ((Below.refl w.heap.size w).alloc (Nat.le_refl _) (.cells #[.int .i64 s, .int .i64 n, .int .i64 k, .int .i64 d, .int .i64 t, .int .i64 r] 34))
  have hbox := Lib.hid (heap_alloc_new w (.cells #[.int .i64 s, .int .i64 n, .int .i64 k, .int .i64 d, .int .i64 t, .int .i64 r] 34))
  replace hE := Lib.hid (hE.below hb1.out)
  have hcall := Lib.hid (total_no s hb (z 1) (w.alloc (.cells #[.int .i64 s, .int .i64 n, .int .i64 k, .int .i64 d, .int .i64 t, .int .i64 r] 34)) (ParErrs.size hE.out))
  unfold parV
  rcases hb with hb | hb
  all_goals
    go_enter Tryd.func27, Tryd.ntmps27
    go_wp2_with fail
    with_reducible refine hcall.out.mono ?_
    rintro e w1 ⟨rfl, q, hq⟩
    have hb2 : Below (w.alloc (.cells #[.int .i64 s, .int .i64 n, .int .i64 k, .int .i64 d, .int .i64 t, .int .i64 r] 34)).heap.size (w.alloc (.cells #[.int .i64 s, .int .i64 n, .int .i64 k, .int .i64 d, .int .i64 t, .int .i64 r] 34)) w1 := by subst hq; exact below_drewN (Below.refl _ _) _
    clear hq
    replace hE := Lib.hid (hE.out.below hb2)
    replace hbox := Lib.hid ((hb2.block _ (by rw [World.size_alloc]; omega)).trans hbox.out)
    replace hb1 := Lib.hid (hb1.out.trans (hb2.mono (by rw [World.size_alloc]; omega)))
    obtain ⟨c0, c1, c2, c3, c4, c5⟩ := box6 hbox.out
    clear hb2 hcall
    go_wp2_with fail
    with_reducible refine (bounds_lit s n k d t r _ z w1 hE.out).mono ?_
    rintro e w2 ⟨M, hM, rfl, hb2⟩
    replace hb1 := Lib.hid (hb1.out.trans (hb2.mono hb1.out.size))
    have hsz := hb1.out.size
    clear hb2 hM c0 c1 c2 c3 c4 c5 hbox hE
    unfold bndV bndA
    go_wp2_with fail
    have i0 := idx0 s n k d t r M z
    unfold bndV bndA at i0
    refine wp_loop_rounds 1 ?_
    rw [rounds_succ]
    go_wp2_with fail
    go_ret
    exact ⟨_, rfl, ⟨_, rfl, by omega, heap_alloc_at _ _ _ (by simp)⟩, ((hb1.out.alloc (by omega) _).alloc (by simp; omega) _)⟩

set_option maxRecDepth 10000 in
set_option maxHeartbeats 4000000 in
theorem check_bad1 (s n k d t r : Int) (hs : 0 ≤ s ∧ s ≤ 2000) (hb : n < 0 ∨ 8 < n) (z : Nat → Addr) (w : World) (hE : ParErrs w z) :
    Calls Tryd.prog 27 #[parV s n k d t r] w fun e w' => ∃ v, e = .returned v ∧ WrongV w.heap.size w' v ⟨#[115, 101, 110, 116, 105, 110, 101, 108, 115]⟩ n (z 2) ∧ Below w.heap.size w w' := by
  have hT := total_bd s hs
  have hb1 := Lib.hid ((Below.refl w.heap.size w).alloc (Nat.le_refl _) (.cells #[.int .i64 s, .int .i64 n, .int .i64 k, .int .i64 d, .int .i64 t, .int .i64 r] 34))
  have hbox := Lib.hid (heap_alloc_new w (.cells #[.int .i64 s, .int .i64 n, .int .i64 k, .int .i64 d, .int .i64 t, .int .i64 r] 34))
  replace hE := Lib.hid (hE.below hb1.out)
  have hcall := Lib.hid (total_some s hs (w.alloc (.cells #[.int .i64 s, .int .i64 n, .int .i64 k, .int .i64 d, .int .i64 t, .int .i64 r] 34)))
  generalize totalOf s = T at *
  unfold parV
  rcases hb with hb | hb
  all_goals
    go_enter Tryd.func27, Tryd.ntmps27
    go_wp2_with fail
    with_reducible refine hcall.out.mono ?_
    rintro e w1 ⟨rfl, hb2⟩
    replace hE := Lib.hid (hE.out.below hb2)
    replace hbox := Lib.hid ((hb2.block _ (by rw [World.size_alloc]; omega)).trans hbox.out)
    replace hb1 := Lib.hid (hb1.out.trans (hb2.mono (by rw [World.size_alloc]; omega)))
    obtain ⟨c0, c1, c2, c3, c4, c5⟩ := box6 hbox.out
    clear hb2 hcall
    go_wp2_with fail
    with_reducible refine (bounds_lit s n k d t r _ z w1 hE.out).mono ?_
    rintro e w2 ⟨M, hM, rfl, hb2⟩
    replace hb1 := Lib.hid (hb1.out.trans (hb2.mono hb1.out.size))
    have hsz := hb1.out.size
    clear hb2 hM c0 c1 c2 c3 c4 c5 hbox hE
    unfold bndV bndA
    go_wp2_with fail
    have i0 := idx0 s n k d t r M z
    have i1 := idx1 s n k d t r M z
    unfold bndV bndA at i0 i1
    refine wp_loop_rounds 2 ?_
    rw [rounds_succ]
    go_wp2_with fail
    rw [rounds_succ]
    go_wp2_with fail
    go_ret
    exact ⟨_, rfl, ⟨_, rfl, by omega, heap_alloc_at _ _ _ (by simp)⟩, (((hb1.out.alloc (by omega) _).alloc (by simp; omega) _).alloc (by simp; omega) _)⟩

set_option maxRecDepth 10000 in
set_option maxHeartbeats 4000000 in
theorem check_bad2 (s n k d t r : Int) (hs : 0 ≤ s ∧ s ≤ 2000) (hn : 0 ≤ n ∧ n ≤ 8) (hb : k < 1 ∨ 12 < k) (z : Nat → Addr) (w : World) (hE : ParErrs w z) :
    Calls Tryd.prog 27 #[parV s n k d t r] w fun e w' => ∃ v, e = .returned v ∧ WrongV w.heap.size w' v ⟨#[115, 112, 111, 116, 115]⟩ k (z 0) ∧ Below w.heap.size w w' := by
  have hT := total_bd s hs
  have hb1 := Lib.hid ((Below.refl w.heap.size w).alloc (Nat.le_refl _) (.cells #[.int .i64 s, .int .i64 n, .int .i64 k, .int .i64 d, .int .i64 t, .int .i64 r] 34))
  have hbox := Lib.hid (heap_alloc_new w (.cells #[.int .i64 s, .int .i64 n, .int .i64 k, .int .i64 d, .int .i64 t, .int .i64 r] 34))
  replace hE := Lib.hid (hE.below hb1.out)
  have hcall := Lib.hid (total_some s hs (w.alloc (.cells #[.int .i64 s, .int .i64 n, .int .i64 k, .int .i64 d, .int .i64 t, .int .i64 r] 34)))
  generalize totalOf s = T at *
  unfold parV
  rcases hb with hb | hb
  all_goals
    go_enter Tryd.func27, Tryd.ntmps27
    go_wp2_with fail
    with_reducible refine hcall.out.mono ?_
    rintro e w1 ⟨rfl, hb2⟩
    replace hE := Lib.hid (hE.out.below hb2)
    replace hbox := Lib.hid ((hb2.block _ (by rw [World.size_alloc]; omega)).trans hbox.out)
    replace hb1 := Lib.hid (hb1.out.trans (hb2.mono (by rw [World.size_alloc]; omega)))
    obtain ⟨c0, c1, c2, c3, c4, c5⟩ := box6 hbox.out
    clear hb2 hcall
    go_wp2_with fail
    with_reducible refine (bounds_lit s n k d t r _ z w1 hE.out).mono ?_
    rintro e w2 ⟨M, hM, rfl, hb2⟩
    obtain rfl := hM (by omega)
    replace hb1 := Lib.hid (hb1.out.trans (hb2.mono hb1.out.size))
    have hsz := hb1.out.size
    clear hb2 hM c0 c1 c2 c3 c4 c5 hbox hE
    unfold bndV bndA
    go_wp2_with fail
    have i0 := idx0 s n k d t r 12 z
    have i1 := idx1 s n k d t r 12 z
    have i2 := idx2 s n k d t r 12 z
    unfold bndV bndA at i0 i1 i2
    refine wp_loop_rounds 3 ?_
    rw [rounds_succ]
    go_wp2_with fail
    rw [rounds_succ]
    go_wp2_with fail
    rw [rounds_succ]
    go_wp2_with fail
    go_ret
    exact ⟨_, rfl, ⟨_, rfl, by omega, heap_alloc_at _ _ _ (by simp)⟩, ((((hb1.out.alloc (by omega) _).alloc (by simp; omega) _).alloc (by simp; omega) _).alloc (by simp; omega) _)⟩

set_option maxRecDepth 10000 in
set_option maxHeartbeats 4000000 in
theorem check_bad3 (s n k d t r : Int) (hs : 0 ≤ s ∧ s ≤ 2000) (hn : 0 ≤ n ∧ n ≤ 8) (hk : 1 ≤ k ∧ k ≤ 12) (hb : d < 1 ∨ 10000 < d) (z : Nat → Addr) (w : World) (hE : ParErrs w z) :
    Calls Tryd.prog 27 #[parV s n k d t r] w fun e w' => ∃ v, e = .returned v ∧ WrongV w.heap.size w' v ⟨#[112, 101, 114, 105, 111, 100]⟩ d (z 0) ∧ Below w.heap.size w w' := by
  have hT := total_bd s hs
  have hb1 := Lib.hid ((Below.refl w.heap.size w).alloc (Nat.le_refl _) (.cells #[.int .i64 s, .int .i64 n, .int .i64 k, .int .i64 d, .int .i64 t, .int .i64 r] 34))
  have hbox := Lib.hid (heap_alloc_new w (.cells #[.int .i64 s, .int .i64 n, .int .i64 k, .int .i64 d, .int .i64 t, .int .i64 r] 34))
  replace hE := Lib.hid (hE.below hb1.out)
  have hcall := Lib.hid (total_some s hs (w.alloc (.cells #[.int .i64 s, .int .i64 n, .int .i64 k, .int .i64 d, .int .i64 t, .int .i64 r] 34)))
  generalize totalOf s = T at *
  unfold parV
  rcases hb with hb | hb
  all_goals
    go_enter Tryd.func27, Tryd.ntmps27
    go_wp2_with fail
    with_reducible refine hcall.out.mono ?_
    rintro e w1 ⟨rfl, hb2⟩
    replace hE := Lib.hid (hE.out.below hb2)
    replace hbox := Lib.hid ((hb2.block _ (by rw [World.size_alloc]; omega)).trans hbox.out)
    replace hb1 := Lib.hid (hb1.out.trans (hb2.mono (by rw [World.size_alloc]; omega)))
    obtain ⟨c0, c1, c2, c3, c4, c5⟩ := box6 hbox.out
    clear hb2 hcall
    go_wp2_with fail
    with_reducible refine (bounds_lit s n k d t r _ z w1 hE.out).mono ?_
    rintro e w2 ⟨M, hM, rfl, hb2⟩
    obtain rfl := hM (by omega)
    replace hb1 := Lib.hid (hb1.out.trans (hb2.mono hb1.out.size))
    have hsz := hb1.out.size
    clear hb2 hM c0 c1 c2 c3 c4 c5 hbox hE
    unfold bndV bndA
    go_wp2_with fail
    have i0 := idx0 s n k d t r 12 z
    have i1 := idx1 s n k d t r 12 z
    have i2 := idx2 s n k d t r 12 z
    have i3 := idx3 s n k d t r 12 z
    unfold bndV bndA at i0 i1 i2 i3
    refine wp_loop_rounds 4 ?_
    rw [rounds_succ]
    go_wp2_with fail
    rw [rounds_succ]
    go_wp2_with fail
    rw [rounds_succ]
    go_wp2_with fail
    rw [rounds_succ]
    go_wp2_with fail
    go_ret
    exact ⟨_, rfl, ⟨_, rfl, by omega, heap_alloc_at _ _ _ (by simp)⟩, (((((hb1.out.alloc (by omega) _).alloc (by simp; omega) _).alloc (by simp; omega) _).alloc (by simp; omega) _).alloc (by simp; omega) _)⟩

set_option maxRecDepth 10000 in
set_option maxHeartbeats 4000000 in
theorem check_bad4 (s n k d t r : Int) (hs : 0 ≤ s ∧ s ≤ 2000) (hn : 0 ≤ n ∧ n ≤ 8) (hk : 1 ≤ k ∧ k ≤ 12) (hd : 1 ≤ d ∧ d ≤ 10000) (hb : t < 1 ∨ d < t) (z : Nat → Addr) (w : World) (hE : ParErrs w z) :
    Calls Tryd.prog 27 #[parV s n k d t r] w fun e w' => ∃ v, e = .returned v ∧ WrongV w.heap.size w' v ⟨#[112, 97, 116, 105, 101, 110, 99, 101]⟩ t (z 0) ∧ Below w.heap.size w w' := by
  have hT := total_bd s hs
  have hb1 := Lib.hid ((Below.refl w.heap.size w).alloc (Nat.le_refl _) (.cells #[.int .i64 s, .int .i64 n, .int .i64 k, .int .i64 d, .int .i64 t, .int .i64 r] 34))
  have hbox := Lib.hid (heap_alloc_new w (.cells #[.int .i64 s, .int .i64 n, .int .i64 k, .int .i64 d, .int .i64 t, .int .i64 r] 34))
  replace hE := Lib.hid (hE.below hb1.out)
  have hcall := Lib.hid (total_some s hs (w.alloc (.cells #[.int .i64 s, .int .i64 n, .int .i64 k, .int .i64 d, .int .i64 t, .int .i64 r] 34)))
  generalize totalOf s = T at *
  unfold parV
  rcases hb with hb | hb
  all_goals
    go_enter Tryd.func27, Tryd.ntmps27
    go_wp2_with fail
    with_reducible refine hcall.out.mono ?_
    rintro e w1 ⟨rfl, hb2⟩
    replace hE := Lib.hid (hE.out.below hb2)
    replace hbox := Lib.hid ((hb2.block _ (by rw [World.size_alloc]; omega)).trans hbox.out)
    replace hb1 := Lib.hid (hb1.out.trans (hb2.mono (by rw [World.size_alloc]; omega)))
    obtain ⟨c0, c1, c2, c3, c4, c5⟩ := box6 hbox.out
    clear hb2 hcall
    go_wp2_with fail
    with_reducible refine (bounds_lit s n k d t r _ z w1 hE.out).mono ?_
    rintro e w2 ⟨M, hM, rfl, hb2⟩
    obtain rfl := hM (by omega)
    replace hb1 := Lib.hid (hb1.out.trans (hb2.mono hb1.out.size))
    have hsz := hb1.out.size
    clear hb2 hM c0 c1 c2 c3 c4 c5 hbox hE
    unfold bndV bndA
    go_wp2_with fail
    have i0 := idx0 s n k d t r 12 z
    have i1 := idx1 s n k d t r 12 z
    have i2 := idx2 s n k d t r 12 z
    have i3 := idx3 s n k d t r 12 z
    have i4 := idx4 s n k d t r 12 z
    unfold bndV bndA at i0 i1 i2 i3 i4
    refine wp_loop_rounds 5 ?_
    rw [rounds_succ]
    go_wp2_with fail
    rw [rounds_succ]
    go_wp2_with fail
    rw [rounds_succ]
    go_wp2_with fail
    rw [rounds_succ]
    go_wp2_with fail
    rw [rounds_succ]
    go_wp2_with fail
    go_ret
    exact ⟨_, rfl, ⟨_, rfl, by omega, heap_alloc_at _ _ _ (by simp)⟩, ((((((hb1.out.alloc (by omega) _).alloc (by simp; omega) _).alloc (by simp; omega) _).alloc (by simp; omega) _).alloc (by simp; omega) _).alloc (by simp; omega) _)⟩

set_option maxRecDepth 10000 in
set_option maxHeartbeats 4000000 in
theorem check_bad5 (s n k d t r : Int) (hs : 0 ≤ s ∧ s ≤ 2000) (hn : 0 ≤ n ∧ n ≤ 8) (hk : 1 ≤ k ∧ k ≤ 12) (hd : 1 ≤ d ∧ d ≤ 10000) (ht : 1 ≤ t ∧ t ≤ d) (hb : r < 0 ∨ 5 < r) (z : Nat → Addr) (w : World) (hE : ParErrs w z) :
    Calls Tryd.prog 27 #[parV s n k d t r] w fun e w' => ∃ v, e = .returned v ∧ WrongV w.heap.size w' v ⟨#[114, 101, 116, 114, 105, 101, 115]⟩ r (z 0) ∧ Below w.heap.size w w' := by
  have hT := total_bd s hs
  have hb1 := Lib.hid ((Below.refl w.heap.size w).alloc (Nat.le_refl _) (.cells #[.int .i64 s, .int .i64 n, .int .i64 k, .int .i64 d, .int .i64 t, .int .i64 r] 34))
  have hbox := Lib.hid (heap_alloc_new w (.cells #[.int .i64 s, .int .i64 n, .int .i64 k, .int .i64 d, .int .i64 t, .int .i64 r] 34))
  replace hE := Lib.hid (hE.below hb1.out)
  have hcall := Lib.hid (total_some s hs (w.alloc (.cells #[.int .i64 s, .int .i64 n, .int .i64 k, .int .i64 d, .int .i64 t, .int .i64 r] 34)))
  generalize totalOf s = T at *
  unfold parV
  rcases hb with hb | hb
  all_goals
    go_enter Tryd.func27, Tryd.ntmps27
    go_wp2_with fail
    with_reducible refine hcall.out.mono ?_
    rintro e w1 ⟨rfl, hb2⟩
    replace hE := Lib.hid (hE.out.below hb2)
    replace hbox := Lib.hid ((hb2.block _ (by rw [World.size_alloc]; omega)).trans hbox.out)
    replace hb1 := Lib.hid (hb1.out.trans (hb2.mono (by rw [World.size_alloc]; omega)))
    obtain ⟨c0, c1, c2, c3, c4, c5⟩ := box6 hbox.out
    clear hb2 hcall
    go_wp2_with fail
    with_reducible refine (bounds_lit s n k d t r _ z w1 hE.out).mono ?_
    rintro e w2 ⟨M, hM, rfl, hb2⟩
    obtain rfl := hM (by omega)
    replace hb1 := Lib.hid (hb1.out.trans (hb2.mono hb1.out.size))
    have hsz := hb1.out.size
    clear hb2 hM c0 c1 c2 c3 c4 c5 hbox hE
    unfold bndV bndA
    go_wp2_with fail
    have i0 := idx0 s n k d t r 12 z
    have i1 := idx1 s n k d t r 12 z
    have i2 := idx2 s n k d t r 12 z
    have i3 := idx3 s n k d t r 12 z
    have i4 := idx4 s n k d t r 12 z
    have i5 := idx5 s n k d t r 12 z
    unfold bndV bndA at i0 i1 i2 i3 i4 i5
    refine wp_loop_rounds 6 ?_
    rw [rounds_succ]
    go_wp2_with fail
    rw [rounds_succ]
    go_wp2_with fail
    rw [rounds_succ]
    go_wp2_with fail
    rw [rounds_succ]
    go_wp2_with fail
    rw [rounds_succ]
    go_wp2_with fail
    rw [rounds_succ]
    go_wp2_with fail
    go_ret
    exact ⟨_, rfl, ⟨_, rfl, by omega, heap_alloc_at _ _ _ (by simp)⟩, (((((((hb1.out.alloc (by omega) _).alloc (by simp; omega) _).alloc (by simp; omega) _).alloc (by simp; omega) _).alloc (by simp; omega) _).alloc (by simp; omega) _).alloc (by simp; omega) _)⟩

end Go.Proofs.YtndgacjfkoliaaaDoor
