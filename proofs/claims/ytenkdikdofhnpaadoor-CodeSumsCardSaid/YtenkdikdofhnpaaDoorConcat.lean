/- slices.Grow of nil, slices.Concat of two rows of bytes. -/
import Derived.Test.YtenkdikdofhnpaaDoorPolyApp
import Derived.Lib.AppendZeros
namespace Go.Proofs.YtenkdikdofhnpaaDoor
open Go.RowKit

set_option maxRecDepth 100000 in
set_option maxHeartbeats 1000000 in
theorem grow_any (n : Nat) (w : World) (h1 : 1 ≤ n) (h2 : n ≤ 1000000) : Calls Tryd.prog 38 #[.slice none 0 0, .int .i64 (n : Int)] w fun e w' => ∃ v, e = .returned v ∧ OwnB w.heap.size w' v [] ∧ Below w.heap.size w w' := by
  obtain ⟨i0, hi, hz0, hz1, hz2⟩ := info_parts Tryd.infoByteP
  have happ := Lib.run_append_nil_zeros (P := Tryd.prog) w 22 3 22 5 i0 (.int .u8 0) .i64 .i64 Tryd.underlying22 Tryd.underlying3 hi hz0 n (by omega) (by omega) (by omega) (by rw [hz2]; omega)
  generalize hcap : grownCap w n 0 5 = cap2 at happ
  have hcapge : n ≤ cap2 := by rw [← hcap]; exact grownCap_ge w _ 0 5
  have hcaple : cap2 ≤ maxLen := by rw [← hcap]; exact grownCap_le_maxLen w _ 0 5 (by unfold maxLen; omega)
  generalize hZ : (Builtin.zeroCells (Value.int .u8 0).cells n ++ Builtin.zeroCells (Value.int .u8 0).cells (cap2 - n)) = Z at happ
  have hZs : Z.size = cap2 := by rw [← hZ]; simp [size_zeroCells, Value.cells]; omega
  clear hcap hZ
  have hZs := Lib.hid hZs
  have h3 := Lib.hid hcaple
  clear hcaple
  have happ := Lib.hid happ
  go_enter Tryd.func38, Tryd.ntmps38
  go_wp2_with (at_builtin; refine Lib.wpList_append_run _ rfl _ _ _ _ rfl _ _ rfl rfl _ _ happ.out ?_)
  go_ret
  refine ⟨_, rfl, ?_, ?_⟩
  · exact ⟨rfl, .inr ⟨w.heap.size, cap2, Z, rfl, Nat.le_refl _, heap_alloc_new w _, Nat.zero_le _, h3.out, by rw [Nat.mul_one]; exact hZs.out, rfl⟩⟩
  · exact Below.alloc (Drawn.below ⟨1, rfl⟩ _) (Nat.le_refl _) _

set_option maxRecDepth 100000 in
set_option maxHeartbeats 2000000 in
theorem concat_any (a : Option Addr) (ca : Nat) (xs : List UInt8) (b : Option Addr) (cb : Nat) (ys : List UInt8) (B : Nat) (w : World) (ha : ArgB w a ca xs) (hb : ArgB w b cb ys)
    (hB : w.heap[B]? = some (.cells #[.slice a xs.length ca, .slice b ys.length cb] 22 (0, 0))) (hx : xs.length ≤ 100000) (hy : ys.length ≤ 100000) (h1 : 1 ≤ xs.length + ys.length) :
    Calls Tryd.prog 27 #[.slice (some ⟨B, 0, none⟩) 2 2] w fun e w' => ∃ v, e = .returned v ∧ OwnB w.heap.size w' v (xs ++ ys) ∧ Below w.heap.size w w' := by
  have hBl := Lib.hid (block_lt hB)
  have h0 : w.cell? ⟨B, 0, none⟩ = some (.slice a xs.length ca) := cell_of_block hB 0
  have h1' : w.cell? ⟨B, 1, none⟩ = some (.slice b ys.length cb) := cell_of_block hB 1
  replace hB := Lib.hid hB
  replace ha := Lib.hid ha
  replace hb := Lib.hid hb
  have hs0 : ((xs.length : Int) < 0) = False := by simp
  go_enter Tryd.func27, Tryd.ntmps27
  go_wp2_with fail
  go_loop [3, 5, 11] (fun s _ j => (j = .int .i64 0 ∧ s = .int .i64 0) ∨ (j = .int .i64 1 ∧ s = .int .i64 xs.length) ∨ (j = .int .i64 2 ∧ s = .int .i64 ((xs.length : Int) + ys.length))) (fun _ _ j => 2 - (intOf j).toNat)
  case atStart => exact .inl ⟨rfl, rfl⟩
  case round =>
    rcases hrel with ⟨rfl, rfl⟩ | ⟨rfl, rfl⟩ | ⟨rfl, rfl⟩
    · go_wp2_with fail
      exact ⟨.inr (.inl ⟨by go_num, by go_num⟩), by simp [intOf]⟩
    · have hneg : ¬ ((xs.length : Int) + ys.length < 0) := by omega
      go_wp2_with fail
      exact ⟨.inr (.inr ⟨by go_num, by go_num⟩), by simp [intOf]⟩
    · replace h0 := Lib.hid h0
      replace h1' := Lib.hid h1'
      go_wp2_with fail
      have hg := grow_any (xs.length + ys.length) w h1 (by omega)
      rw [Int.natCast_add] at hg
      with_reducible refine hg.mono ?_
      rintro e w1 ⟨v, rfl, ho, hb1⟩
      replace ho := Lib.hid ho
      replace hb1 := Lib.hid hb1
      clear hg h1
      go_wp2_with fail
      go_loopw [6, 8, 27] (fun v _ j wr => ((j = .int .i64 0 ∧ OwnB w.heap.size wr v []) ∨ (j = .int .i64 1 ∧ OwnB w.heap.size wr v xs) ∨ (j = .int .i64 2 ∧ OwnB w.heap.size wr v (xs ++ ys))) ∧ Below w.heap.size w wr) (fun _ _ j _ => 2 - (intOf j).toNat)
      case atStart => exact ⟨.inl ⟨rfl, ho.out⟩, hb1.out⟩
      case round =>
        clear ho hb1
        obtain ⟨hrel, hbel⟩ := hrel
        have hsz := hbel.size
        have k0 := (hbel.cell (p := ⟨B, 0, none⟩) hBl.out).trans h0.out
        have k1 := (hbel.cell (p := ⟨B, 1, none⟩) hBl.out).trans h1'.out
        have ha2 := Lib.hid (ha.out.below hbel)
        have hb2 := Lib.hid (hb.out.below hbel)
        have hlx := Lib.hid (Eq.refl xs.length)
        have hly := Lib.hid (Eq.refl ys.length)
        replace hbel := Lib.hid hbel
        rcases hrel with ⟨rfl, hown⟩ | ⟨rfl, hown⟩ | ⟨rfl, hown⟩
        · replace hown := Lib.hid hown
          go_wp2_with (at_builtin; go_must (refine wpB_app rfl (.tmp 31) (.tmp 32) rfl w.heap.size _ [] rfl hown a ca xs _ rfl hlx ha2 (by simp) (by omega) hsz ?_))
          intro v' w3 hown3 hb3
          go_wp2_with fail
          go_roundw
          case rel => exact ⟨.inr (.inl ⟨by go_num, hown3.out⟩), hbel.out.trans hb3.out⟩
          case measure => simp [intOf]
        · replace hown := Lib.hid hown
          go_wp2_with (at_builtin; go_must (refine wpB_app rfl (.tmp 31) (.tmp 32) rfl w.heap.size _ xs rfl hown b cb ys _ rfl hly hb2 (by omega) (by omega) hsz ?_))
          intro v' w3 hown3 hb3
          go_wp2_with fail
          go_roundw
          case rel => exact ⟨.inr (.inr ⟨by go_num, hown3.out⟩), hbel.out.trans hb3.out⟩
          case measure => simp [intOf]
        · replace hown := Lib.hid hown
          go_wp2_with fail
          go_ret
          exact ⟨_, rfl, hown.out, hbel.out⟩

end Go.Proofs.YtenkdikdofhnpaaDoor
