/- Walks over field.Make and the table's methods. -/
import Derived.Test.YtenkdikdofhnpaaDoorFieldX
import Derived.BigRegion
namespace Go.Proofs.YtenkdikdofhnpaaDoor
open Go.RowKit

/-- n powers are in the table. -/
structure TabN (n : Nat) (cs : Array Value) : Prop where
  size : cs.size = 766
  lo : ∀ i, i < n → cs[i]? = some (.int .u8 ((Gf.gexp i).toNat : Int))
  hi : ∀ i, i < n → cs[i + 255]? = some (.int .u8 ((Gf.gexp i).toNat : Int))
  log : ∀ i, i < n → cs[510 + (Gf.gexp i).toNat]? = some (.int .i64 (i : Int))

theorem TabN.step {n : Nat} {cs : Array Value} (h : TabN n cs) (hn : n < 255) :
    TabN (n + 1) (((cs.setIfInBounds n (.int .u8 ((Gf.gexp n).toNat : Int))).setIfInBounds (n + 255) (.int .u8 ((Gf.gexp n).toNat : Int))).setIfInBounds (510 + (Gf.gexp n).toNat) (.int .i64 (n : Int))) := by
  have hx := (Gf.gexp n).toNat_lt
  have hs := h.size
  refine ⟨by simp [hs], fun i hi => ?_, fun i hi => ?_, fun i hi => ?_⟩
  · simp only [Array.getElem?_setIfInBounds, Array.size_setIfInBounds, hs]
    rw [if_neg (by omega), if_neg (by omega)]
    by_cases e : n = i
    · subst e; rw [if_pos rfl, if_pos (by omega)]
    · rw [if_neg e]; exact h.lo i (by omega)
  · simp only [Array.getElem?_setIfInBounds, Array.size_setIfInBounds, hs]
    rw [if_neg (by omega)]
    by_cases e : n = i
    · subst e; rw [if_pos rfl, if_pos (by omega)]
    · rw [if_neg (by omega), if_neg (by omega)]; exact h.hi i (by omega)
  · have hy := (Gf.gexp i).toNat_lt
    simp only [Array.getElem?_setIfInBounds, Array.size_setIfInBounds, hs]
    by_cases e : n = i
    · subst e; rw [if_pos rfl, if_pos (by omega)]
    · have : (Gf.gexp n).toNat ≠ (Gf.gexp i).toNat := fun h1 => by
        have h2 := Gf.exp_inj (UInt8.toNat_inj.1 h1)
        omega
      rw [if_neg (by omega), if_neg (by omega), if_neg (by omega)]
      exact h.log i (by omega)

/-- The whole table. -/
structure Tab (cs : Array Value) : Prop where
  exp : ∀ i, i < 510 → cs[i]? = some (.int .u8 ((Gf.gexp i).toNat : Int))
  log : ∀ a : UInt8, a ≠ 0 → cs[510 + a.toNat]? = some (.int .i64 (Gf.glog a : Int))
  zero : cs[510]? = some (.int .i64 (-1))

theorem TabN.done {cs : Array Value} (h : TabN 255 cs) : Tab (cs.setIfInBounds 510 (.int .i64 (-1))) := by
  have hs := h.size
  refine ⟨fun i hi => ?_, fun a ha => ?_, ?_⟩
  · simp only [Array.getElem?_setIfInBounds, hs]
    rw [if_neg (by omega)]
    rcases Nat.lt_or_ge i 255 with h1 | h1
    · exact h.lo i h1
    · have h2 := h.hi (i - 255) (by omega)
      rw [show i - 255 + 255 = i from by omega] at h2
      have h3 := Gf.exp_period (i - 255)
      rw [show i - 255 + 255 = i from by omega] at h3
      rw [h3]; exact h2
  · have h1 := Gf.glog_lt_exp a ha
    have h2 := h.log _ h1.1
    rw [h1.2] at h2
    simp only [Array.getElem?_setIfInBounds, hs]
    rw [if_neg (fun e => ha (UInt8.toNat_inj.1 (by simp; omega)))]
    exact h2
  · simp [hs]

/-- A table lies at block b. -/
def TabAt (w : World) (b : Nat) : Prop := ∃ cs, w.heap[b]? = some (.cells cs 59 (0, 0)) ∧ Tab cs
theorem TabAt.below {w w' : World} {b B : Nat} (h : TabAt w b) (hb : Below B w w') (hB : b < B) : TabAt w' b := by
  obtain ⟨cs, h1, h2⟩ := h
  exact ⟨cs, (hb.block b hB).trans h1, h2⟩
theorem TabAt.lt {w : World} {b : Nat} (h : TabAt w b) : b < w.heap.size := by
  obtain ⟨cs, h1, h2⟩ := h
  exact block_lt h1

/-- The empty table (a name of its own: the walk does not write it out). -/
@[irreducible] def zeroTab : Array Value := Array.replicate 510 (.int .u8 0) ++ Array.replicate 256 (.int .i64 0)
theorem zeroTab_run (w : World) : (zeroValue 59).run Tryd.prog w = .ok (.agg zeroTab) w := by kernel_rfl
theorem zeroTab_size : zeroTab.size = 766 := by kernel_rfl
theorem zeroTab_ne : zeroTab ≠ #[] := fun e => by have := zeroTab_size; rw [e] at this; cases this

set_option maxRecDepth 10000 in
set_option maxHeartbeats 1000000 in
theorem make_any (w : World) : Calls Tryd.prog 29 #[] w fun e w' => e = .returned (.pointer (some ⟨w.heap.size, 0, none⟩)) ∧ Below w.heap.size w w' ∧ TabAt w' w.heap.size := by
  have zr := zeroTab_run
  have zn := zeroTab_ne
  go_enter Tryd.func29, Tryd.ntmps29
  go_wp2_with fail
  clear zr zn
  go_loopw [2, 6] (fun x j wr => ∃ (k : Nat) (cs : Array Value), k ≤ 255 ∧ j = .int .i64 k ∧ x = .int .u8 ((Gf.gexp k).toNat : Int) ∧ wr.heap[w.heap.size]? = some (.cells cs 59 (0, 0)) ∧ TabN k cs ∧ Below w.heap.size w wr)
    (fun _ j _ => 255 - (intOf j).toNat)
  case atStart => exact ⟨0, _, by omega, rfl, rfl, heap_alloc_new w _, ⟨by kernel_rfl, fun i hi => by omega, fun i hi => by omega, fun i hi => by omega⟩, (Below.refl _ _).alloc (Nat.le_refl _) _⟩
  case round =>
    obtain ⟨k, cs, hk, rfl, rfl, hblk, htab, hbel⟩ := hrel
    have hs := htab.size
    have hblk := Lib.hid hblk
    by_cases hlt : k < 255
    · have hx := (Gf.gexp k).toNat_lt
      obtain ⟨v1, c1⟩ : ∃ v, wr.cell? ⟨w.heap.size, k, none⟩ = some v := ⟨cs[k], by rw [cell_of_block hblk.out]; exact Array.getElem?_eq_getElem _⟩
      obtain ⟨v2, c2⟩ : ∃ v, wr.cell? ⟨w.heap.size, k + 255, none⟩ = some v := ⟨cs[k + 255], by rw [cell_of_block hblk.out]; exact Array.getElem?_eq_getElem _⟩
      obtain ⟨v3, c3⟩ : ∃ v, wr.cell? ⟨w.heap.size, 510 + (Gf.gexp k).toNat, none⟩ = some v := ⟨cs[510 + (Gf.gexp k).toNat], by rw [cell_of_block hblk.out]; exact Array.getElem?_eq_getElem _⟩
      have f1 : wr.frozen? ⟨w.heap.size, k, none⟩ = false := free_of_block hblk.out _
      have f2 : wr.frozen? ⟨w.heap.size, k + 255, none⟩ = false := free_of_block hblk.out _
      have f3 : wr.frozen? ⟨w.heap.size, 510 + (Gf.gexp k).toNat, none⟩ = false := free_of_block hblk.out _
      go_wp2_with fail
      go_region
      go_wp2_with fail
      refine (double_any (Gf.gexp k) _).mono ?_
      rintro e w1 ⟨rfl, rfl⟩
      go_wp2_with fail
      go_roundw
      case rel =>
        have hu := ((((Upd.refl hblk.out).drew).setCell (j := k) (.int .u8 ((Gf.gexp k).toNat : Int))).setCell (j := k + 255) (.int .u8 ((Gf.gexp k).toNat : Int))).setCell (j := 510 + (Gf.gexp k).toNat) (.int .i64 (k : Int))
        exact ⟨k + 1, _, by omega, by go_num, rfl, hu.here, htab.step hlt, hbel.trans (hu.below (Nat.le_refl _))⟩
      case measure => simp [intOf]; omega
    · obtain rfl : k = 255 := by omega
      obtain ⟨v1, c1⟩ : ∃ v, wr.cell? ⟨w.heap.size, 510, none⟩ = some v := ⟨cs[510], by rw [cell_of_block hblk.out]; exact Array.getElem?_eq_getElem _⟩
      have f1 : wr.frozen? ⟨w.heap.size, 510, none⟩ = false := free_of_block hblk.out _
      go_wp2_with fail
      go_ret
      have hu := (Upd.refl hblk.out).setCell (j := 510) (.int .i64 (-1))
      exact ⟨rfl, hbel.trans (hu.below (Nat.le_refl _)), _, hu.here, htab.done⟩

set_option maxRecDepth 10000 in
set_option maxHeartbeats 400000 in
theorem texp_any (n : Int) (b : Nat) (w : World) (h : TabAt w b) : Calls Tryd.prog 30 #[.pointer (some ⟨b, 0, none⟩), .int .i64 n] w fun e w' => e = .returned (.int .u8 ((Gf.gexp (ex n)).toNat : Int)) ∧ w = w' := by
  obtain ⟨cs, hb, ht⟩ := h
  have h1 := tmod_lo n
  have h2 := tmod_hi n
  have h3 := ex_lt n
  have h4 := ex_go n
  have h5 : n.tmod 255 % 255 = ((ex n : Nat) : Int) := by rw [← ex_go]; omega
  have c1 : w.cell? ⟨b, ex n, none⟩ = some (.int .u8 ((Gf.gexp (ex n)).toNat : Int)) := by
    rw [cell_of_block hb]
    exact ht.exp _ (by omega)
  clear hb ht
  go_enter Tryd.func30, Tryd.ntmps30
  go_wp2
  go_ret
  exact ⟨rfl, rfl⟩

set_option maxRecDepth 10000 in
set_option maxHeartbeats 400000 in
theorem tmul_zero_left (y : UInt8) (b : Nat) (w : World) : Calls Tryd.prog 31 #[.pointer (some ⟨b, 0, none⟩), .int .u8 0, .int .u8 (y.toNat : Int)] w fun e w' => e = .returned (.int .u8 0) ∧ w = w' := by
  go_enter Tryd.func31, Tryd.ntmps31
  go_wp2
  go_ret
  exact ⟨rfl, rfl⟩
set_option maxRecDepth 10000 in
set_option maxHeartbeats 400000 in
theorem tmul_zero_right (x : UInt8) (hx : x ≠ 0) (b : Nat) (w : World) : Calls Tryd.prog 31 #[.pointer (some ⟨b, 0, none⟩), .int .u8 (x.toNat : Int), .int .u8 0] w fun e w' => e = .returned (.int .u8 0) ∧ w = w' := by
  have h1 := u8_ne hx
  go_enter Tryd.func31, Tryd.ntmps31
  go_wp2
  go_ret
  exact ⟨rfl, rfl⟩
set_option maxRecDepth 10000 in
set_option maxHeartbeats 400000 in
theorem tmul_some (x y : UInt8) (hx : x ≠ 0) (hy : y ≠ 0) (b : Nat) (w : World) (h : TabAt w b) : Calls Tryd.prog 31 #[.pointer (some ⟨b, 0, none⟩), .int .u8 (x.toNat : Int), .int .u8 (y.toNat : Int)] w fun e w' =>
    e = .returned (.int .u8 ((Gf.mul x y).toNat : Int)) ∧ ∃ n, w' = w.drewN n := by
  have h1 := u8_ne hx
  have h2 := u8_ne hy
  obtain ⟨cs, hb, ht⟩ := h
  have b1 := (Gf.glog_lt_exp x hx).1
  have b2 := (Gf.glog_lt_exp y hy).1
  have l1 := x.toNat_lt
  have l2 := y.toNat_lt
  have c1 : w.cell? ⟨b, 510 + x.toNat, none⟩ = some (.int .i64 (Gf.glog x : Int)) := by rw [cell_of_block hb]; exact ht.log x hx
  have c2 : w.cell? ⟨b, 510 + y.toNat, none⟩ = some (.int .i64 (Gf.glog y : Int)) := by rw [cell_of_block hb]; exact ht.log y hy
  have c3 : w.cell? ⟨b, Gf.glog x + Gf.glog y, none⟩ = some (.int .u8 ((Gf.mul x y).toNat : Int)) := by rw [cell_of_block hb, Gf.mul_log hx hy]; exact ht.exp _ (by omega)
  clear hb ht hx hy
  go_enter Tryd.func31, Tryd.ntmps31
  go_wp2
  go_quiet (fail)
  go_wp2
  go_ret
  exact ⟨rfl, _, rfl⟩
theorem tmul_any (x y : UInt8) (b : Nat) (w : World) (h : TabAt w b) : Calls Tryd.prog 31 #[.pointer (some ⟨b, 0, none⟩), .int .u8 (x.toNat : Int), .int .u8 (y.toNat : Int)] w fun e w' =>
    e = .returned (.int .u8 ((Gf.mul x y).toNat : Int)) ∧ ∃ n, w' = w.drewN n := by
  by_cases hx : x = 0
  · subst hx
    refine (tmul_zero_left y b w).mono ?_
    rintro e w1 ⟨rfl, rfl⟩
    exact ⟨by rw [Gf.mul_zero_left]; rfl, 0, rfl⟩
  · by_cases hy : y = 0
    · subst hy
      refine (tmul_zero_right x hx b w).mono ?_
      rintro e w1 ⟨rfl, rfl⟩
      exact ⟨by rw [Gf.mul_zero]; rfl, 0, rfl⟩
    · exact tmul_some x y hx hy b w h

theorem div_log {x y : UInt8} (hx : x ≠ 0) (hy : y ≠ 0) : Gf.mul x (Gf.inv y) = Gf.gexp (Gf.glog x + 255 - Gf.glog y) := by
  have b1 := Gf.glog_lt_exp x hx
  have b2 := Gf.glog_lt_exp y hy
  unfold Gf.inv
  rw [if_neg hy]
  conv => lhs; rw [← b1.2]
  rw [Gf.exp_add]
  congr 1
  omega
end Go.Proofs.YtenkdikdofhnpaaDoor
