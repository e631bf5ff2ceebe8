/- Walks over package clock, params.Window. -/
import Derived.Test.YtkdkecmldekokaaDoorCheck
import Derived.Test.YtkdkecmldekokaaDoorRetRow
namespace Go.Proofs.YtkdkecmldekokaaDoor
open Go.RowKit


theorem check_lit (s n k d t r : Int) (h : ParOk s n k d t r) (z : Nat → Addr) (w : World) (hE : ParErrs w z) :
    Calls Tryd.prog 7 #[.agg #[.int .i64 s, .int .i64 n, .int .i64 k, .int .i64 d, .int .i64 t, .int .i64 r]] w fun e w' => e = .returned .nilIface ∧ Below w.heap.size w w' := check_ok s n k d t r h z w hE

set_option maxHeartbeats 1000000 in
theorem new_any (s n k d t r now : Int) (hd : 0 ≤ d ∧ d ≤ 10000) (hn : 0 ≤ now ∧ now ≤ 1000000) (w : World) :
    Calls Tryd.prog 9 #[.agg #[.int .i64 s, .int .i64 n, .int .i64 k, .int .i64 d, .int .i64 t, .int .i64 r], .int .i64 now] w fun e w' => e = .returned (.agg #[.int .i64 (now + d), .int .i64 (-1), .int .i64 0, .int .i64 0]) ∧ Below w.heap.size w w' := by
  have hb0 := Lib.hid (Below.refl w.heap.size w)
  go_enter Tryd.func9, Tryd.ntmps9
  go_wp2_with fail
  refine ret_cell_row rfl rfl Tryd.underlying34 rfl (by kernel_rfl) (heap_alloc_at _ _ _ (by simp)) ?_
  exact ⟨rfl, (hb0.out.alloc (Nat.le_refl _) _).alloc (by simp) _⟩

set_option maxHeartbeats 1000000 in
theorem asked_any (s n k d t r now a b c e id : Int) (hd : 0 ≤ d ∧ d ≤ 10000) (ht : 0 ≤ t ∧ t ≤ 10000) (hn : 0 ≤ now ∧ now ≤ 1000000) (w : World) :
    Calls Tryd.prog 11 #[.agg #[.int .i64 a, .int .i64 b, .int .i64 c, .int .i64 e], .agg #[.int .i64 s, .int .i64 n, .int .i64 k, .int .i64 d, .int .i64 t, .int .i64 r], .int .i64 id, .int .i64 now] w fun e w' => e = .returned (.agg #[.int .i64 (now + d), .int .i64 id, .int .i64 0, .int .i64 (now + t)]) ∧ Below w.heap.size w w' := by
  have hb0 := Lib.hid (Below.refl w.heap.size w)
  go_enter Tryd.func11, Tryd.ntmps11
  go_wp2_with fail
  refine ret_cell_row rfl rfl Tryd.underlying34 rfl (by kernel_rfl) (heap_alloc_at _ _ _ (by simp)) ?_
  exact ⟨rfl, ((hb0.out.alloc (Nat.le_refl _) _).alloc (by simp) _).alloc (by simp; omega) _⟩

set_option maxHeartbeats 1000000 in
theorem again_any (s n k d t r now a b c e : Int) (hc : 0 ≤ c ∧ c ≤ 100) (ht : 0 ≤ t ∧ t ≤ 10000) (hn : 0 ≤ now ∧ now ≤ 1000000) (w : World) :
    Calls Tryd.prog 12 #[.agg #[.int .i64 a, .int .i64 b, .int .i64 c, .int .i64 e], .agg #[.int .i64 s, .int .i64 n, .int .i64 k, .int .i64 d, .int .i64 t, .int .i64 r], .int .i64 now] w fun e w' => e = .returned (.agg #[.int .i64 a, .int .i64 b, .int .i64 (c + 1), .int .i64 (now + t)]) ∧ Below w.heap.size w w' := by
  have hb0 := Lib.hid (Below.refl w.heap.size w)
  go_enter Tryd.func12, Tryd.ntmps12
  go_wp2_with fail
  refine ret_cell_row rfl rfl Tryd.underlying34 rfl (by kernel_rfl) (heap_alloc_at _ _ _ (by simp)) ?_
  exact ⟨rfl, ((hb0.out.alloc (Nat.le_refl _) _).alloc (by simp) _).alloc (by simp; omega) _⟩

set_option maxHeartbeats 1000000 in
theorem closed_any (a b c e : Int) (w : World) :
    Calls Tryd.prog 13 #[.agg #[.int .i64 a, .int .i64 b, .int .i64 c, .int .i64 e]] w fun e w' => e = .returned (.agg #[.int .i64 a, .int .i64 (-1), .int .i64 0, .int .i64 0]) ∧ Below w.heap.size w w' := by
  have hb0 := Lib.hid (Below.refl w.heap.size w)
  go_enter Tryd.func13, Tryd.ntmps13
  go_wp2_with fail
  refine ret_cell_row rfl rfl Tryd.underlying34 rfl (by kernel_rfl) (heap_alloc_at _ _ _ (by simp)) ?_
  exact ⟨rfl, (hb0.out.alloc (Nat.le_refl _) _).alloc (by simp) _⟩

set_option maxHeartbeats 1000000 in
theorem right_any (a b c e : Int) (h1 : 0 ≤ a) (h2 : 0 ≤ e) (h3 : -1 ≤ b) (h4 : 0 ≤ c) (h5 : -1 < b ∨ b = -1 ∧ c = 0 ∧ e = 0) (w : World) :
    Calls Tryd.prog 14 #[.agg #[.int .i64 a, .int .i64 b, .int .i64 c, .int .i64 e]] w fun e w' => e = .returned (.bool true) ∧ Below w.heap.size w w' := by
  have hb0 := Lib.hid (Below.refl w.heap.size w)
  rcases h5 with h5 | ⟨rfl, rfl, rfl⟩
  all_goals
    go_enter Tryd.func14, Tryd.ntmps14
    go_wp2_with fail
    go_ret
    exact ⟨rfl, hb0.out.alloc (Nat.le_refl _) _⟩

set_option maxHeartbeats 1000000 in
theorem window_any (s n k d t r : Int) (h : ParOk s n k d t r) (z : Nat → Addr) (w : World) (hE : ParErrs w z) :
    Calls Tryd.prog 8 #[.agg #[.int .i64 s, .int .i64 n, .int .i64 k, .int .i64 d, .int .i64 t, .int .i64 r]] w fun e w' => e = .returned (.int .i64 (d + t * (r + 1))) ∧ Below w.heap.size w w' := by
  obtain ⟨hs, hn, hk, hd, ht, hr⟩ := id h
  have hm : 0 ≤ t * (r + 1) ∧ t * (r + 1) ≤ 60000 := by
    have h1 : 0 ≤ t * (r + 1) := Int.mul_nonneg (by omega) (by omega)
    have h2 : t * (r + 1) ≤ t * 6 := Int.mul_le_mul_of_nonneg_left (by omega) (by omega)
    omega
  have hw1 : IntKind.i64.wrap (t * (r + 1)) = t * (r + 1) := IntWalk.i64_in _ (by omega)
  have hw2 : IntKind.i64.wrap (d + t * (r + 1)) = d + t * (r + 1) := IntWalk.i64_in _ (by omega)
  clear hm
  have hb1 := Lib.hid ((Below.refl w.heap.size w).alloc (Nat.le_refl _) (.cells #[.int .i64 s, .int .i64 n, .int .i64 k, .int .i64 d, .int .i64 t, .int .i64 r] 27))
  have hbox := Lib.hid (heap_alloc_new w (.cells #[.int .i64 s, .int .i64 n, .int .i64 k, .int .i64 d, .int .i64 t, .int .i64 r] 27))
  have hcall := Lib.hid (check_lit s n k d t r h z _ (hE.below hb1.out))
  clear h
  go_enter Tryd.func8, Tryd.ntmps8
  go_wp2_with fail
  with_reducible refine hcall.out.mono ?_
  rintro e w1 ⟨rfl, hb2⟩
  replace hbox := Lib.hid ((hb2.block _ (by rw [World.size_alloc]; omega)).trans hbox.out)
  replace hb1 := Lib.hid (hb1.out.trans (hb2.mono (by rw [World.size_alloc]; omega)))
  obtain ⟨c0, c1, c2, c3, c4, c5⟩ := box6 hbox.out
  clear hb2 hcall
  go_wp2_with fail
  go_ret
  exact ⟨rfl, hb1.out⟩

/-- What a task wants. -/
def wantOf (r now due opn tries til : Int) : Int := if opn ≤ -1 ∧ due ≤ now then 1 else if opn ≤ -1 ∨ now < til then 0 else if tries < r then 2 else 3

theorem box4 {w' : World} {b : Nat} {x y z v : Value} {t : TypeId} (h : w'.heap[b]? = some (.cells #[x, y, z, v] t (0, 0))) :
    w'.cell? ⟨b, 0, none⟩ = some x ∧ w'.cell? ⟨b, 1, none⟩ = some y ∧ w'.cell? ⟨b, 2, none⟩ = some z ∧ w'.cell? ⟨b, 3, none⟩ = some v := by
  simp [cell_of_block h]
theorem box6' {w' : World} {g : Nat} {a b c d e f : Value} {t : TypeId} (h : w'.heap[g]? = some (.cells #[a, b, c, d, e, f] t (0, 0))) : w'.cell? ⟨g, 5, none⟩ = some f := by
  simp [cell_of_block h]

set_option maxHeartbeats 2000000 in
theorem wants_any (s n k d t r now a b c e : Int) (h : ParOk s n k d t r) (z : Nat → Addr) (w : World) (hE : ParErrs w z) :
    Calls Tryd.prog 10 #[.agg #[.int .i64 a, .int .i64 b, .int .i64 c, .int .i64 e], .agg #[.int .i64 s, .int .i64 n, .int .i64 k, .int .i64 d, .int .i64 t, .int .i64 r], .int .i64 now] w fun e' w' => e' = .returned (.int .i64 (wantOf r now a b c e)) ∧ Below w.heap.size w w' := by
  have hb1 := Lib.hid (((Below.refl w.heap.size w).alloc (Nat.le_refl _) (.cells #[.int .i64 a, .int .i64 b, .int .i64 c, .int .i64 e] 34)).alloc (by simp) (.cells #[.int .i64 s, .int .i64 n, .int .i64 k, .int .i64 d, .int .i64 t, .int .i64 r] 27))
  have hbox := Lib.hid (Go.Proofs.YtkdkecmldekokaaDoor.heap_alloc_at (w.alloc (.cells #[.int .i64 a, .int .i64 b, .int .i64 c, .int .i64 e] 34)) (.cells #[.int .i64 s, .int .i64 n, .int .i64 k, .int .i64 d, .int .i64 t, .int .i64 r] 27) (w.heap.size + 1) (by simp))
  have hbox1 := Lib.hid ((Below.heap_alloc (w.alloc (.cells #[.int .i64 a, .int .i64 b, .int .i64 c, .int .i64 e] 34)) (.cells #[.int .i64 s, .int .i64 n, .int .i64 k, .int .i64 d, .int .i64 t, .int .i64 r] 27) w.heap.size (by simp)).trans (heap_alloc_new w (.cells #[.int .i64 a, .int .i64 b, .int .i64 c, .int .i64 e] 34)))
  have hcall := Lib.hid (check_lit s n k d t r h z _ (hE.below hb1.out))
  clear h
  rcases (show (b ≤ -1 ∧ a ≤ now) ∨ (b ≤ -1 ∧ now < a) ∨ (-1 < b ∧ now < e) ∨ (-1 < b ∧ e ≤ now ∧ c < r) ∨ (-1 < b ∧ e ≤ now ∧ r ≤ c) from by omega) with hw | hw | hw | hw | hw
  · rw [show wantOf r now a b c e = 1 from by unfold wantOf; rw [if_pos hw]]
    obtain ⟨hw1, hw2⟩ := hw
    go_enter Tryd.func10, Tryd.ntmps10
    go_wp2_with fail
    with_reducible refine hcall.out.mono ?_
    rintro e' w1 ⟨rfl, hb2⟩
    replace hbox := Lib.hid ((hb2.block _ (by simp)).trans hbox.out)
    replace hbox1 := Lib.hid ((hb2.block _ (by simp; omega)).trans hbox1.out)
    replace hb1 := Lib.hid (hb1.out.trans (hb2.mono (by simp; omega)))
    have c6 := box6' hbox.out
    obtain ⟨c0, c1, c2, c3⟩ := box4 hbox1.out
    clear hb2 hcall
    go_wp2_with fail
    go_ret
    exact ⟨rfl, hb1.out⟩
  · rw [show wantOf r now a b c e = 0 from by unfold wantOf; rw [if_neg (by omega), if_pos (by omega)]]
    obtain ⟨hw1, hw2⟩ := hw
    go_enter Tryd.func10, Tryd.ntmps10
    go_wp2_with fail
    with_reducible refine hcall.out.mono ?_
    rintro e' w1 ⟨rfl, hb2⟩
    replace hbox := Lib.hid ((hb2.block _ (by simp)).trans hbox.out)
    replace hbox1 := Lib.hid ((hb2.block _ (by simp; omega)).trans hbox1.out)
    replace hb1 := Lib.hid (hb1.out.trans (hb2.mono (by simp; omega)))
    have c6 := box6' hbox.out
    obtain ⟨c0, c1, c2, c3⟩ := box4 hbox1.out
    clear hb2 hcall
    go_wp2_with fail
    go_ret
    exact ⟨rfl, hb1.out⟩
  · rw [show wantOf r now a b c e = 0 from by unfold wantOf; rw [if_neg (by omega), if_pos (by omega)]]
    obtain ⟨hw1, hw2⟩ := hw
    go_enter Tryd.func10, Tryd.ntmps10
    go_wp2_with fail
    with_reducible refine hcall.out.mono ?_
    rintro e' w1 ⟨rfl, hb2⟩
    replace hbox := Lib.hid ((hb2.block _ (by simp)).trans hbox.out)
    replace hbox1 := Lib.hid ((hb2.block _ (by simp; omega)).trans hbox1.out)
    replace hb1 := Lib.hid (hb1.out.trans (hb2.mono (by simp; omega)))
    have c6 := box6' hbox.out
    obtain ⟨c0, c1, c2, c3⟩ := box4 hbox1.out
    clear hb2 hcall
    go_wp2_with fail
    go_ret
    exact ⟨rfl, hb1.out⟩
  · rw [show wantOf r now a b c e = 2 from by unfold wantOf; rw [if_neg (by omega), if_neg (by omega), if_pos (by omega)]]
    obtain ⟨hw1, hw2, hw3⟩ := hw
    go_enter Tryd.func10, Tryd.ntmps10
    go_wp2_with fail
    with_reducible refine hcall.out.mono ?_
    rintro e' w1 ⟨rfl, hb2⟩
    replace hbox := Lib.hid ((hb2.block _ (by simp)).trans hbox.out)
    replace hbox1 := Lib.hid ((hb2.block _ (by simp; omega)).trans hbox1.out)
    replace hb1 := Lib.hid (hb1.out.trans (hb2.mono (by simp; omega)))
    have c6 := box6' hbox.out
    obtain ⟨c0, c1, c2, c3⟩ := box4 hbox1.out
    clear hb2 hcall
    go_wp2_with fail
    go_ret
    exact ⟨rfl, hb1.out⟩
  · rw [show wantOf r now a b c e = 3 from by unfold wantOf; rw [if_neg (by omega), if_neg (by omega), if_neg (by omega)]]
    obtain ⟨hw1, hw2, hw3⟩ := hw
    go_enter Tryd.func10, Tryd.ntmps10
    go_wp2_with fail
    with_reducible refine hcall.out.mono ?_
    rintro e' w1 ⟨rfl, hb2⟩
    replace hbox := Lib.hid ((hb2.block _ (by simp)).trans hbox.out)
    replace hbox1 := Lib.hid ((hb2.block _ (by simp; omega)).trans hbox1.out)
    replace hb1 := Lib.hid (hb1.out.trans (hb2.mono (by simp; omega)))
    have c6 := box6' hbox.out
    obtain ⟨c0, c1, c2, c3⟩ := box4 hbox1.out
    clear hb2 hcall
    go_wp2_with fail
    go_ret
    exact ⟨rfl, hb1.out⟩

end Go.Proofs.YtkdkecmldekokaaDoor
