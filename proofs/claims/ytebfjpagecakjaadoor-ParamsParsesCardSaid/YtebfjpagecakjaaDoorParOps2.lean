/- Walks over params.Window, Budget, Bytes, Field of nil; the reference's Stored, Bytes. -/
import Derived.Test.YtebfjpagecakjaaDoorParOps
namespace Go.Proofs.YtebfjpagecakjaaDoor
open Go.RowKit


set_option maxHeartbeats 1000000 in
theorem field_nil (w : World) : Calls Tryd.prog 18 #[.nilIface] w fun e w' => e = .returned (.tuple #[.string ⟨#[]⟩, .int .i64 0, .bool false]) ∧ Below w.heap.size w w' := by
  have hb0 := Lib.hid (Below.refl w.heap.size w)
  go_enter Tryd.func18, Tryd.ntmps18
  go_wp2_with fail
  refine (as_nil _ _).mono ?_
  rintro e w1 ⟨rfl, rfl⟩
  go_wp2_with fail
  go_ret3
  exact ⟨rfl, hb0.out.alloc (Nat.le_refl _) _⟩

section
variable (s n k d t r : Int) (F : ByteArray) (V : Int) (i : Nat) (ea : Nat → Addr) (w : World)

set_option maxHeartbeats 1000000 in
theorem window_wrong (h : badAt s n k d t r = some (F, V, i)) (hn : -9223372036854775808 ≤ n ∧ n ≤ 9223372036854775807) (H : Errs 123 errGs w ea) :
    Calls Tryd.prog 21 #[.agg #[.int .i64 s, .int .i64 n, .int .i64 k, .int .i64 d, .int .i64 t, .int .i64 r]] w fun e w' => e = .returned (.int .i64 0) ∧ Below w.heap.size w w' := by
  have hb1 := Lib.hid ((Below.refl w.heap.size w).alloc (Nat.le_refl _) (.cells #[.int .i64 s, .int .i64 n, .int .i64 k, .int .i64 d, .int .i64 t, .int .i64 r] 24))
  have hp := Lib.hid (heap_alloc_new w (.cells #[.int .i64 s, .int .i64 n, .int .i64 k, .int .i64 d, .int .i64 t, .int .i64 r] 24))
  have hcall := Lib.hid (check_wrong s n k d t r F V i h hn ea _ (H.below hb1.out))
  clear h hn
  go_enter Tryd.func21, Tryd.ntmps21
  go_wp2_with (refine wpList_load_row rfl 24 (.tmp 1) rfl w.heap.size #[.int .i64 s, .int .i64 n, .int .i64 k, .int .i64 d, .int .i64 t, .int .i64 r] _ rfl hp Tryd.underlying24 rfl (by kernel_rfl) ?_)
  with_reducible refine hcall.out.mono ?_
  rintro e w1 ⟨g, rfl, _, _, hb2⟩
  replace hb1 := Lib.hid (hb1.out.trans (hb2.mono hb1.out.size))
  clear hb2 hcall
  go_wp2_with fail
  go_ret
  exact ⟨rfl, hb1.out⟩
set_option maxHeartbeats 1000000 in
theorem budget_wrong (h : badAt s n k d t r = some (F, V, i)) (hn : -9223372036854775808 ≤ n ∧ n ≤ 9223372036854775807) (H : Errs 123 errGs w ea) :
    Calls Tryd.prog 22 #[.agg #[.int .i64 s, .int .i64 n, .int .i64 k, .int .i64 d, .int .i64 t, .int .i64 r]] w fun e w' => e = .returned (.int .i64 0) ∧ Below w.heap.size w w' := by
  have hb1 := Lib.hid ((Below.refl w.heap.size w).alloc (Nat.le_refl _) (.cells #[.int .i64 s, .int .i64 n, .int .i64 k, .int .i64 d, .int .i64 t, .int .i64 r] 24))
  have hp := Lib.hid (heap_alloc_new w (.cells #[.int .i64 s, .int .i64 n, .int .i64 k, .int .i64 d, .int .i64 t, .int .i64 r] 24))
  have hcall := Lib.hid (check_wrong s n k d t r F V i h hn ea _ (H.below hb1.out))
  clear h hn
  go_enter Tryd.func22, Tryd.ntmps22
  go_wp2_with (refine wpList_load_row rfl 24 (.tmp 1) rfl w.heap.size #[.int .i64 s, .int .i64 n, .int .i64 k, .int .i64 d, .int .i64 t, .int .i64 r] _ rfl hp Tryd.underlying24 rfl (by kernel_rfl) ?_)
  with_reducible refine hcall.out.mono ?_
  rintro e w1 ⟨g, rfl, _, _, hb2⟩
  replace hb1 := Lib.hid (hb1.out.trans (hb2.mono hb1.out.size))
  clear hb2 hcall
  go_wp2_with fail
  go_ret
  exact ⟨rfl, hb1.out⟩
set_option maxHeartbeats 1000000 in
theorem bytes_wrong (h : badAt s n k d t r = some (F, V, i)) (hn : -9223372036854775808 ≤ n ∧ n ≤ 9223372036854775807) (H : Errs 123 errGs w ea) :
    Calls Tryd.prog 16 #[.agg #[.int .i64 s, .int .i64 n, .int .i64 k, .int .i64 d, .int .i64 t, .int .i64 r]] w fun e w' => ∃ g, e = .returned (.tuple #[.slice none 0 0, (.iface 56 (.pointer (some ⟨g, 0, none⟩)))]) ∧ WrongAns w.heap.size w' F V (ea i) g ∧ Below w.heap.size w w' := by
  have hb1 := Lib.hid ((Below.refl w.heap.size w).alloc (Nat.le_refl _) (.cells #[.int .i64 s, .int .i64 n, .int .i64 k, .int .i64 d, .int .i64 t, .int .i64 r] 24))
  have hp := Lib.hid (heap_alloc_new w (.cells #[.int .i64 s, .int .i64 n, .int .i64 k, .int .i64 d, .int .i64 t, .int .i64 r] 24))
  have hcall := Lib.hid (check_wrong s n k d t r F V i h hn ea _ (H.below hb1.out))
  clear h hn
  go_enter Tryd.func16, Tryd.ntmps16
  go_wp2_with (refine wpList_load_row rfl 24 (.tmp 1) rfl w.heap.size #[.int .i64 s, .int .i64 n, .int .i64 k, .int .i64 d, .int .i64 t, .int .i64 r] _ rfl hp Tryd.underlying24 rfl (by kernel_rfl) ?_)
  with_reducible refine hcall.out.mono ?_
  rintro e w1 ⟨g, rfl, hg1, hg2, hb2⟩
  rw [World.size_alloc] at hg1
  replace hb1 := Lib.hid (hb1.out.trans (hb2.mono hb1.out.size))
  clear hb2 hcall
  replace hg2 := Lib.hid hg2
  go_wp2_with fail
  go_ret2
  exact ⟨_, rfl, ⟨by omega, hg2.out⟩, hb1.out⟩

set_option maxHeartbeats 1000000 in
theorem window_ok (h : ParOk s n k d t r) (z : Nat → Addr) (hE : ParErrs w z) :
    Calls Tryd.prog 21 #[.agg #[.int .i64 s, .int .i64 n, .int .i64 k, .int .i64 d, .int .i64 t, .int .i64 r]] w fun e w' => e = .returned (.int .i64 (d + t * (1 + r))) ∧ Below w.heap.size w w' := by
  obtain ⟨hs, hn, hk, hd, ht, hr⟩ := id h
  have hm : 0 ≤ t * (1 + r) ∧ t * (1 + r) ≤ 60000 := by
    have h1 : 0 ≤ t * (1 + r) := Int.mul_nonneg (by omega) (by omega)
    have h2 : t * (1 + r) ≤ t * 6 := Int.mul_le_mul_of_nonneg_left (by omega) (by omega)
    omega
  have hc : r + 1 = 1 + r := Int.add_comm r 1
  have hw1 : IntKind.i64.wrap (t * (1 + r)) = t * (1 + r) := IntWalk.i64_in _ (by omega)
  have hw2 : IntKind.i64.wrap (d + t * (1 + r)) = d + t * (1 + r) := IntWalk.i64_in _ (by omega)
  clear hm
  have hb1 := Lib.hid ((Below.refl w.heap.size w).alloc (Nat.le_refl _) (.cells #[.int .i64 s, .int .i64 n, .int .i64 k, .int .i64 d, .int .i64 t, .int .i64 r] 24))
  have hp := Lib.hid (heap_alloc_new w (.cells #[.int .i64 s, .int .i64 n, .int .i64 k, .int .i64 d, .int .i64 t, .int .i64 r] 24))
  have hcall := Lib.hid (check_lit s n k d t r h z _ (hE.below hb1.out))
  clear h
  go_enter Tryd.func21, Tryd.ntmps21
  go_wp2_with (refine wpList_load_row rfl 24 (.tmp 1) rfl w.heap.size #[.int .i64 s, .int .i64 n, .int .i64 k, .int .i64 d, .int .i64 t, .int .i64 r] _ rfl hp Tryd.underlying24 rfl (by kernel_rfl) ?_)
  with_reducible refine hcall.out.mono ?_
  rintro e w1 ⟨rfl, hb2⟩
  replace hp := Lib.hid ((hb2.block _ (by simp)).trans hp.out)
  replace hb1 := Lib.hid (hb1.out.trans (hb2.mono hb1.out.size))
  obtain ⟨c0, c1, c2, c3, c4, c5⟩ := box6 hp.out
  clear hb2 hcall
  go_wp2_with fail
  go_ret
  exact ⟨rfl, hb1.out⟩
set_option maxHeartbeats 1000000 in
theorem budget_ok (h : ParOk s n k d t r) (z : Nat → Addr) (hE : ParErrs w z) :
    Calls Tryd.prog 22 #[.agg #[.int .i64 s, .int .i64 n, .int .i64 k, .int .i64 d, .int .i64 t, .int .i64 r]] w fun e w' => e = .returned (.int .i64 n) ∧ Below w.heap.size w w' := by
  have hb1 := Lib.hid ((Below.refl w.heap.size w).alloc (Nat.le_refl _) (.cells #[.int .i64 s, .int .i64 n, .int .i64 k, .int .i64 d, .int .i64 t, .int .i64 r] 24))
  have hp := Lib.hid (heap_alloc_new w (.cells #[.int .i64 s, .int .i64 n, .int .i64 k, .int .i64 d, .int .i64 t, .int .i64 r] 24))
  have hcall := Lib.hid (check_lit s n k d t r h z _ (hE.below hb1.out))
  clear h
  go_enter Tryd.func22, Tryd.ntmps22
  go_wp2_with (refine wpList_load_row rfl 24 (.tmp 1) rfl w.heap.size #[.int .i64 s, .int .i64 n, .int .i64 k, .int .i64 d, .int .i64 t, .int .i64 r] _ rfl hp Tryd.underlying24 rfl (by kernel_rfl) ?_)
  with_reducible refine hcall.out.mono ?_
  rintro e w1 ⟨rfl, hb2⟩
  replace hp := Lib.hid ((hb2.block _ (by simp)).trans hp.out)
  replace hb1 := Lib.hid (hb1.out.trans (hb2.mono hb1.out.size))
  obtain ⟨c0, c1, c2, c3, c4, c5⟩ := box6 hp.out
  clear hb2 hcall
  go_wp2_with fail
  go_ret
  exact ⟨rfl, hb1.out⟩

set_option maxHeartbeats 1000000 in
theorem rstored_any (h : ParOk s n k d t r) :
    Calls Tryd.prog 24 #[.agg #[.int .i64 s, .int .i64 n, .int .i64 k, .int .i64 d, .int .i64 t, .int .i64 r]] w fun e w' => e = .returned (.int .i64 (totalOf s + n)) ∧ Below w.heap.size w w' := by
  have hT := total_bd s h.1
  have hn := h.2.1
  have htot := Lib.hid (fun W => rtotal_some s h.1 W)
  have hb1 := Lib.hid ((Below.refl w.heap.size w).alloc (Nat.le_refl _) (.cells #[.int .i64 s, .int .i64 n, .int .i64 k, .int .i64 d, .int .i64 t, .int .i64 r] 34))
  have hp := Lib.hid (heap_alloc_new w (.cells #[.int .i64 s, .int .i64 n, .int .i64 k, .int .i64 d, .int .i64 t, .int .i64 r] 34))
  clear h
  generalize totalOf s = T at *
  go_enter Tryd.func24, Tryd.ntmps24
  go_wp2_with fail
  with_reducible refine (htot.out _).mono ?_
  rintro e w1 ⟨rfl, hb2⟩
  replace hp := Lib.hid ((hb2.block _ (by simp)).trans hp.out)
  replace hb1 := Lib.hid (hb1.out.trans (hb2.mono hb1.out.size))
  obtain ⟨c0, c1, c2, c3, c4, c5⟩ := box6 hp.out
  clear hb2 htot
  go_wp2_with fail
  go_ret
  exact ⟨rfl, hb1.out⟩

/-- The bytes of right parameters. -/
def b8 (z : Int) : UInt8 := UInt8.ofNat (z % 256).toNat
theorem b8_val (z : Int) (h : 0 ≤ z ∧ z ≤ 255) : ((b8 z).toNat : Int) = z := by unfold b8; simp; omega
theorem b8_mod (z : Int) : ((b8 z).toNat : Int) = z % 256 := by unfold b8; simp; omega
theorem argB_lit (w : World) (t : TypeId) (bs : List UInt8) (cs : Array Value) (h : cs = (cB bs).toArray) (hl : bs.length ≤ 1000000) : ArgB (w.alloc (.cells cs t)) (some ⟨w.heap.size, 0, none⟩) bs.length bs := by
  subst h
  refine ⟨Nat.le_refl _, (by unfold maxLen; omega), (fun e => by cases e), fun i hi => ⟨_, _, rfl, ?_⟩⟩
  rw [cell_of_block (heap_alloc_new w _)]
  simp [cB, hi]
def bytesL : List UInt8 := [b8 (s / 256), b8 s, b8 n, b8 k, b8 (d / 256), b8 d, b8 (t / 256), b8 t, b8 r]

theorem bytes_cells (h : ParOk s n k d t r) : (#[.int .u8 (s / 256), .int .u8 (s % 256), .int .u8 n, .int .u8 k, .int .u8 (d / 256), .int .u8 (d % 256), .int .u8 (t / 256), .int .u8 (t % 256), .int .u8 r] : Array Value) = (cB (bytesL s n k d t r)).toArray := by
  obtain ⟨hs, hn, hk, hd, ht, hr⟩ := h
  simp only [cB, bytesL, List.map]
  rw [b8_val (s / 256) (by omega), b8_mod s, b8_val n (by omega), b8_val k (by omega), b8_val (d / 256) (by omega), b8_mod d, b8_val (t / 256) (by omega), b8_mod t, b8_val r (by omega)]

set_option maxHeartbeats 1000000 in
theorem bytes_ok (h : ParOk s n k d t r) (z : Nat → Addr) (hE : ParErrs w z) :
    Calls Tryd.prog 16 #[.agg #[.int .i64 s, .int .i64 n, .int .i64 k, .int .i64 d, .int .i64 t, .int .i64 r]] w fun e w' => ∃ b, e = .returned (.tuple #[.slice (some ⟨b, 0, none⟩) 9 9, .nilIface]) ∧ ArgB w' (some ⟨b, 0, none⟩) 9 (bytesL s n k d t r) ∧ Below w.heap.size w w' := by
  obtain ⟨hs, hn, hk, hd, ht, hr⟩ := id h
  have hb1 := Lib.hid ((Below.refl w.heap.size w).alloc (Nat.le_refl _) (.cells #[.int .i64 s, .int .i64 n, .int .i64 k, .int .i64 d, .int .i64 t, .int .i64 r] 24))
  have hp := Lib.hid (heap_alloc_new w (.cells #[.int .i64 s, .int .i64 n, .int .i64 k, .int .i64 d, .int .i64 t, .int .i64 r] 24))
  have hcall := Lib.hid (check_lit s n k d t r h z _ (hE.below hb1.out))
  clear h
  go_enter Tryd.func16, Tryd.ntmps16
  go_wp2_with (refine wpList_load_row rfl 24 (.tmp 1) rfl w.heap.size #[.int .i64 s, .int .i64 n, .int .i64 k, .int .i64 d, .int .i64 t, .int .i64 r] _ rfl hp Tryd.underlying24 rfl (by kernel_rfl) ?_)
  with_reducible refine hcall.out.mono ?_
  rintro e w1 ⟨rfl, hb2⟩
  replace hp := Lib.hid ((hb2.block _ (by simp)).trans hp.out)
  replace hb1 := Lib.hid (hb1.out.trans (hb2.mono hb1.out.size))
  obtain ⟨c0, c1, c2, c3, c4, c5⟩ := box6 hp.out
  clear hb2 hcall
  go_wp2_with fail
  go_ret2
  exact ⟨_, rfl, argB_lit w1 _ (bytesL s n k d t r) _ (bytes_cells s n k d t r ⟨hs, hn, hk, hd, ht, hr⟩) (by simp [bytesL]), hb1.out.alloc hb1.out.size _⟩

set_option maxHeartbeats 1000000 in
theorem rbytes_any (h : ParOk s n k d t r) :
    Calls Tryd.prog 25 #[.agg #[.int .i64 s, .int .i64 n, .int .i64 k, .int .i64 d, .int .i64 t, .int .i64 r]] w fun e w' => ∃ b, e = .returned (.slice (some ⟨b, 0, none⟩) 9 9) ∧ ArgB w' (some ⟨b, 0, none⟩) 9 (bytesL s n k d t r) ∧ Below w.heap.size w w' := by
  obtain ⟨hs, hn, hk, hd, ht, hr⟩ := h
  have hb1 := Lib.hid ((Below.refl w.heap.size w).alloc (Nat.le_refl _) (.cells #[.int .i64 s, .int .i64 n, .int .i64 k, .int .i64 d, .int .i64 t, .int .i64 r] 34))
  go_enter Tryd.func25, Tryd.ntmps25
  go_wp2_with fail
  go_ret
  have hA := argB_lit (w.alloc (.cells #[.int .i64 s, .int .i64 n, .int .i64 k, .int .i64 d, .int .i64 t, .int .i64 r] 34)) 5 (bytesL s n k d t r) _ (bytes_cells s n k d t r ⟨hs, hn, hk, hd, ht, hr⟩) (by simp [bytesL])
  rw [World.size_alloc] at hA
  exact ⟨_, rfl, hA, hb1.out.alloc hb1.out.size _⟩

end
end Go.Proofs.YtebfjpagecakjaaDoor
