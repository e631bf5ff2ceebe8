/- The walk over baileelaw09.LabelSame. -/
import Derived.Test.YtfmeheolcibfeaaDoorAlive9V
import Derived.Test.YtfmeheolcibfeaaDoorSame9B
import Derived.Test.YtfmeheolcibfeaaDoorOpen5B
import Derived.Test.YtfmeheolcibfeaaDoorOnL
namespace Go.Proofs.YtfmeheolcibfeaaDoor
open Go.RowKit

theorem eqTo_refl (f : Nat → List UInt8) (i : Nat) : eqTo f f i = true := (eqTo_iff f f i).2 (fun _ _ => rfl)

set_option maxRecDepth 10000 in
set_option maxHeartbeats 8000000 in
theorem lsame_walk (a1 : Option Addr) (c1 : Nat) (key : List UInt8) (n : Int) (vs : List Value) (f : Nat → List UInt8) (z : Nat → Addr) (w : World) (h1 : ArgB w a1 c1 key) (hv : Five w vs f) (hW : LabV z w) :
    Calls Tryd.prog 4 #[.slice a1 key.length c1, .int .i64 n, .agg vs.toArray] w fun e w' => e = .returned (.bool true) ∧ Below w.heap.size w w' := by
  have hx1 : key.length ≤ 9223372036854775807 := by have := h1.len; have := h1.most; unfold maxLen at *; omega
  have hvv := Lib.hid hv
  obtain ⟨b0, d0, b1, d1, b2, d2, b3, d3, b4, d4, e1, -⟩ := hv.lits
  have hA : vs.toArray = #[.slice b0 (f 0).length d0, .slice b1 (f 1).length d1, .slice b2 (f 2).length d2, .slice b3 (f 3).length d3, .slice b4 (f 4).length d4] := by rw [e1]
  clear hv e1
  obtain ⟨wa, hwa⟩ : ∃ W, W = w.alloc (.cells vs.toArray 36) := ⟨_, rfl⟩
  have hbwa : Below w.heap.size w wa := by rw [hwa]; exact (Below.refl w.heap.size w).alloc (Nat.le_refl _) _
  have hrow0 : wa.heap[w.heap.size]? = some (.cells vs.toArray 36 (0, 0)) := by rw [hwa]; exact heap_alloc_new w _
  have hal := Lib.hid (alive9v_any z wa (hW.below hbwa))
  have hfx : ∀ W, Grown wa W → W.cell? ⟨w.heap.size, 0, none⟩ = some (.slice b0 (f 0).length d0) ∧ W.cell? ⟨w.heap.size, 1, none⟩ = some (.slice b1 (f 1).length d1) ∧ W.cell? ⟨w.heap.size, 2, none⟩ = some (.slice b2 (f 2).length d2) ∧ W.cell? ⟨w.heap.size, 3, none⟩ = some (.slice b3 (f 3).length d3) ∧ W.cell? ⟨w.heap.size, 4, none⟩ = some (.slice b4 (f 4).length d4) := by
    intro W hW
    have := rowG hrow0 W hW
    rw [hA] at this
    refine ⟨?_, ?_, ?_, ?_, ?_⟩ <;> (rw [cell_of_block this]; rfl)
  replace hfx := Lib.hid hfx
  rw [hA]
  rw [hA] at hwa
  replace hwa := Lib.hid hwa
  replace h1 := Lib.hid (h1.below hbwa); replace hW := Lib.hid (hW.below hbwa)
  replace hvv := Lib.hid (hvv.out.below hbwa)
  replace hbwa := Lib.hid hbwa
  replace hrow0 := Lib.hid hrow0
  go_enter Tryd.func4, Tryd.ntmps4
  go_wp2_with fail
  rw [← hwa.out]
  with_reducible refine hal.out.mono ?_
  rintro e w1 ⟨rfl, hnew⟩
  obtain ⟨q0, q1, q2, q3, q4⟩ := hfx.out w1 hnew
  replace h1 := Lib.hid (h1.out.below hnew); replace hW := Lib.hid (hW.out.below hnew); replace hvv := Lib.hid (hvv.out.below hnew)
  have hrV := Lib.hid (rowG hrow0.out _ hnew)
  have hb1 := Lib.hid (hbwa.out.trans (hnew.mono hbwa.out.size))
  clear hal hnew hrow0 hbwa hfx hwa
  by_cases g : 200 < (key.length : Int)
  · have g' : decide (200 < (key.length : Int)) = true := by simpa using g
    clear g
    go_wp2_with fail
    go_ret
    exact ⟨rfl, hb1.out⟩
  by_cases g0 : 60 < ((f 0).length : Int)
  · have g0' : decide (60 < ((f 0).length : Int)) = true := by simpa using g0
    clear g0
    go_wp2_with fail
    go_ret
    exact ⟨rfl, hb1.out⟩
  by_cases g1 : 60 < ((f 1).length : Int)
  · have g1' : decide (60 < ((f 1).length : Int)) = true := by simpa using g1
    clear g1
    go_wp2_with fail
    go_ret
    exact ⟨rfl, hb1.out⟩
  by_cases g2 : 60 < ((f 2).length : Int)
  · have g2' : decide (60 < ((f 2).length : Int)) = true := by simpa using g2
    clear g2
    go_wp2_with fail
    go_ret
    exact ⟨rfl, hb1.out⟩
  by_cases g3 : 60 < ((f 3).length : Int)
  · have g3' : decide (60 < ((f 3).length : Int)) = true := by simpa using g3
    clear g3
    go_wp2_with fail
    go_ret
    exact ⟨rfl, hb1.out⟩
  by_cases g4 : 60 < ((f 4).length : Int)
  · have g4' : decide (60 < ((f 4).length : Int)) = true := by simpa using g4
    clear g4
    go_wp2_with fail
    go_ret
    exact ⟨rfl, hb1.out⟩
  go_wp2_with fail
  clear g g0 g1 g2 g3 g4 q0 q1 q2 q3 q4
  with_reducible refine (all9_any a1 c1 key n (z 0) (z 5) (z 8) _ h1.out hx1 hW.out.lk).mono ?_
  rintro e w2 ⟨xs, rfl, hfX, hnew⟩
  replace h1 := Lib.hid (h1.out.below hnew); replace hW := Lib.hid (hW.out.below hnew); replace hvv := Lib.hid (hvv.out.below hnew)
  replace hrV := Lib.hid (rowG hrV.out _ hnew)
  replace hb1 := Lib.hid (hb1.out.trans (hnew.mono hb1.out.size))
  clear hnew
  obtain ⟨hszX, hs5X, haX⟩ := five_factsS hfX
  have hba := (Below.refl w2.heap.size w2).alloc (Nat.le_refl _) (.cells xs.toArray 36)
  have hrX := Lib.hid (heap_alloc_new w2 (.cells xs.toArray 36))
  replace hfX := Lib.hid (hfX.below hba)
  replace h1 := Lib.hid (h1.out.below hba); replace hW := Lib.hid (hW.out.below hba); replace hvv := Lib.hid (hvv.out.below hba)
  replace hrV := Lib.hid (rowG hrV.out _ hba)
  replace hb1 := Lib.hid (hb1.out.trans (hba.mono hb1.out.size))
  clear hba
  generalize hX : xs.toArray = XV at *
  replace hX := Lib.hid hX
  obtain ⟨bx, hbx⟩ : ∃ b, b = w2.heap.size := ⟨_, rfl⟩
  go_wp2_with (with_reducible refine wpList_store_new rfl 36 (.tmp 7) (.tmp 53) rfl #[.slice none 0 0, .slice none 0 0, .slice none 0 0, .slice none 0 0, .slice none 0 0] XV rfl rfl hszX hs5X haX ?_)
  rw [← hbx] at hrX
  rw [← hbx]
  clear hs5X haX
  generalize (w2.alloc (.cells XV 36)) = w3 at *
  clear hbx
  with_reducible refine (all9_any a1 c1 key n (z 0) (z 5) (z 8) _ h1.out hx1 hW.out.lk).mono ?_
  rintro e w4 ⟨ys, rfl, hfY, hnew⟩
  replace hvv := Lib.hid (hvv.out.below hnew); replace hfX := Lib.hid (hfX.out.below hnew)
  replace hrV := Lib.hid (rowG hrV.out _ hnew)
  replace hrX := Lib.hid (rowG hrX.out _ hnew)
  replace hb1 := Lib.hid (hb1.out.trans (hnew.mono hb1.out.size))
  clear hnew h1 hW
  obtain ⟨hszY, hs5Y, haY⟩ := five_factsS hfY
  have hba := (Below.refl w4.heap.size w4).alloc (Nat.le_refl _) (.cells ys.toArray 36)
  have hrY := Lib.hid (heap_alloc_new w4 (.cells ys.toArray 36))
  replace hfY := Lib.hid (hfY.below hba)
  replace hvv := Lib.hid (hvv.out.below hba); replace hfX := Lib.hid (hfX.out.below hba)
  replace hrV := Lib.hid (rowG hrV.out _ hba)
  replace hrX := Lib.hid (rowG hrX.out _ hba)
  replace hb1 := Lib.hid (hb1.out.trans (hba.mono hb1.out.size))
  clear hba
  generalize hY : ys.toArray = YV at *
  replace hY := Lib.hid hY
  obtain ⟨bY, hbY⟩ : ∃ b, b = w4.heap.size := ⟨_, rfl⟩
  go_wp2_with (with_reducible refine wpList_store_new rfl 36 (.tmp 9) (.tmp 59) rfl #[.slice none 0 0, .slice none 0 0, .slice none 0 0, .slice none 0 0, .slice none 0 0] YV rfl rfl hszY hs5Y haY ?_)
  rw [← hbY] at hrY
  rw [← hbY]
  clear hs5Y haY
  generalize (w4.alloc (.cells YV 36)) = w5 at *
  clear hbY
  obtain ⟨F, hF⟩ : ∃ F : Nat → List UInt8, F = (fun j => kX key (nmB j) n) := ⟨_, rfl⟩
  rw [← hF] at hfX hfY
  have hszV : (Tryd.prog.info? 36).map (·.size) = some vs.toArray.size := (five_factsS hvv.out).1
  have hsxy := Lib.hid (fun W (hG : Grown w5 W) => hX.out ▸ hY.out ▸ eqTo_refl F 5 ▸ same9_any xs ys F F W (hfX.out.below hG) (hfY.out.below hG))
  have hsaa := Lib.hid (fun W (hG : Grown w5 W) => eqTo_refl f 5 ▸ same9_any vs vs f f W (hvv.out.below hG) (hvv.out.below hG))
  have hsxa := Lib.hid (fun W (hG : Grown w5 W) => hX.out ▸ same9_any xs vs F f W (hfX.out.below hG) (hvv.out.below hG))
  have hro := Lib.hid (fun W (hG : Grown w5 W) => hX.out ▸ row_anyS xs F W (hfX.out.below hG))
  have hrv := Lib.hid (fun W (hG : Grown w5 W) => row_anyS vs f W (hvv.out.below hG))
  have hixX := Lib.hid (five_indexS hfX.out)
  have hixV := Lib.hid (five_indexS hvv.out)
  rw [hX.out] at hixX
  clear hfY hF hY
  replace hA := Lib.hid hA
  generalize hV : vs.toArray = VV at *
  replace hV := Lib.hid hV
  generalize aBad key n = bd at *
  by_cases hz : bd = 0
  · rw [hz, show kE (z 0) (z 5) (z 8) 0 = .nilIface from rfl]
    clear hz
    have huA := Tryd.underlying36
    have hzA := hszX
    have rlA := rowG hrX.out
    have huB := Tryd.underlying36
    have hzB := hszY
    have rlB := rowG hrY.out
    have huC := Tryd.underlying36
    have hzC := hszV
    have rlC := rowG hrV.out
    go_wp2_with fail
    refine wp_region_on2 (by kernel_rfl) (fun wd hOn => ?_)
    refine wpAnyH_take (i := 0) (v := ?_) (by simp only [List.getElem?_toArray, List.getElem?_cons_zero]; rfl) (by kernel_rfl) (by kernel_rfl) (by kernel_rfl) (by exact fun _ _ _ h => h) (Or.inl ⟨by rfl, ?_⟩) hOn ?_
    rotate_left
    focus (intro W hSW; go_simp; try with_reducible rfl)
    try simp only [Act.put, List.setIfInBounds_toArray, List.set_cons_zero, List.set_cons_succ]
    refine wpAnyH_take (i := 1) (v := ?_) (by simp only [List.getElem?_toArray, List.getElem?_cons_succ, List.getElem?_cons_zero]; rfl) (by kernel_rfl) (by kernel_rfl) (by kernel_rfl) (by exact fun _ _ _ h => h) (Or.inl ⟨by rfl, ?_⟩) hOn ?_
    rotate_left
    focus (intro W hSW; go_simp; try with_reducible rfl)
    try simp only [Act.put, List.setIfInBounds_toArray, List.set_cons_zero, List.set_cons_succ]
    refine wpAnyH_take (i := 2) (v := ?_) (by simp only [List.getElem?_toArray, List.getElem?_cons_succ, List.getElem?_cons_zero]; rfl) (by kernel_rfl) (by kernel_rfl) (by kernel_rfl) (by exact fun _ _ _ h => h) (Or.inl ⟨by rfl, ?_⟩) hOn ?_
    rotate_left
    focus (intro W hSW; go_simp; try with_reducible rfl)
    try simp only [Act.put, List.setIfInBounds_toArray, List.set_cons_zero, List.set_cons_succ]
    refine wpAnyH_take (i := 3) (v := ?_) (by simp only [List.getElem?_toArray, List.getElem?_cons_succ, List.getElem?_cons_zero]; rfl) (by kernel_rfl) (by kernel_rfl) (by kernel_rfl) (by exact fun _ _ _ h => h) (Or.inl ⟨by rfl, ?_⟩) hOn ?_
    rotate_left
    focus (intro W hSW; go_simp; try with_reducible rfl)
    try simp only [Act.put, List.setIfInBounds_toArray, List.set_cons_zero, List.set_cons_succ]
    refine wpAnyH_take (i := 4) (v := ?_) (by simp only [List.getElem?_toArray, List.getElem?_cons_succ, List.getElem?_cons_zero]; rfl) (by kernel_rfl) (by kernel_rfl) (by kernel_rfl) (by exact fun _ _ _ h => h) (Or.inl ⟨by rfl, ?_⟩) hOn ?_
    rotate_left
    focus (intro W hSW; go_simp; try with_reducible rfl)
    try simp only [Act.put, List.setIfInBounds_toArray, List.set_cons_zero, List.set_cons_succ]
    refine wpAnyH_take (i := 5) (v := ?_) (by simp only [List.getElem?_toArray, List.getElem?_cons_succ, List.getElem?_cons_zero]; rfl) (by kernel_rfl) (by kernel_rfl) (by kernel_rfl) (by exact fun _ _ _ h => h) (Or.inl ⟨by rfl, ?_⟩) hOn ?_
    rotate_left
    focus (intro W hSW; go_simp; try with_reducible rfl)
    try simp only [Act.put, List.setIfInBounds_toArray, List.set_cons_zero, List.set_cons_succ]
    refine wpAnyH_take (i := 6) (v := Value.agg _) (by simp only [List.getElem?_toArray, List.getElem?_cons_succ, List.getElem?_cons_zero]; rfl) (by kernel_rfl) (by kernel_rfl) (by kernel_rfl) (by exact fun _ _ _ h => h) (Or.inl ⟨by rfl, fun W hSW => yields_load_row _ _ rfl _ _ _ rfl (rlA W hSW) huA rfl hzA⟩) hOn ?_
    try simp only [Act.put, List.setIfInBounds_toArray, List.set_cons_zero, List.set_cons_succ]
    refine wpAnyH_take (i := 7) (v := Value.agg _) (by simp only [List.getElem?_toArray, List.getElem?_cons_succ, List.getElem?_cons_zero]; rfl) (by kernel_rfl) (by kernel_rfl) (by kernel_rfl) (by exact fun _ _ _ h => h) (Or.inl ⟨by rfl, fun W hSW => yields_load_row _ _ rfl _ _ _ rfl (rlB W hSW) huB rfl hzB⟩) hOn ?_
    try simp only [Act.put, List.setIfInBounds_toArray, List.set_cons_zero, List.set_cons_succ]
    refine wpAnyH_ready (rs := [8]) (by kernel_rfl) (by simp) ?_
    refine AllReadyH.cons (by simp only [List.getElem?_toArray, List.getElem?_cons_succ, List.getElem?_cons_zero]; rfl) (fun Kz hKz => ?_) AllReadyH.nil
    go_simp
    (with_reducible refine (hsxy.out _ hOn).mono ?_)
    rintro e w7 ⟨rfl, hnew⟩
    have hg7 := Lib.hid (Grown.trans hOn hnew)
    (try replace rlC := keepCS rlC hg7.out)
    clear rlA rlB hsxy
    go_wp2_with fail
    refine hKz.out _ _ (Grown.trans hOn hnew) (fun hNext => ?_)
    clear hKz Kz hOn
    refine wpAnyH_onward hNext (fun hOn => ?_)
    clear hNext hnew
    try simp only [Act.put, List.setIfInBounds_toArray, List.set_cons_zero, List.set_cons_succ]
    refine wpAnyH_take (i := 9) (v := ?_) (by simp only [List.getElem?_toArray, List.getElem?_cons_succ, List.getElem?_cons_zero]; rfl) (by kernel_rfl) (by kernel_rfl) (by kernel_rfl) (by exact fun _ _ _ h => h) (Or.inl ⟨by rfl, ?_⟩) hOn ?_
    rotate_left
    focus (intro W hSW; go_simp; try with_reducible rfl)
    try simp only [Act.put, List.setIfInBounds_toArray, List.set_cons_zero, List.set_cons_succ]
    refine wpAnyH_take (i := 10) (v := ?_) (by simp only [List.getElem?_toArray, List.getElem?_cons_succ, List.getElem?_cons_zero]; rfl) (by kernel_rfl) (by kernel_rfl) (by kernel_rfl) (by exact fun _ _ _ h => h) (Or.inl ⟨by rfl, ?_⟩) hOn ?_
    rotate_left
    focus (intro W hSW; go_simp; try with_reducible rfl)
    try simp only [Act.put, List.setIfInBounds_toArray, List.set_cons_zero, List.set_cons_succ]
    refine wpAnyH_take (i := 11) (v := ?_) (by simp only [List.getElem?_toArray, List.getElem?_cons_succ, List.getElem?_cons_zero]; rfl) (by kernel_rfl) (by kernel_rfl) (by kernel_rfl) (by exact fun _ _ _ h => h) (Or.inl ⟨by rfl, ?_⟩) hOn ?_
    rotate_left
    focus (intro W hSW; go_simp; try with_reducible rfl)
    try simp only [Act.put, List.setIfInBounds_toArray, List.set_cons_zero, List.set_cons_succ]
    refine wpAnyH_take (i := 12) (v := Value.agg _) (by simp only [List.getElem?_toArray, List.getElem?_cons_succ, List.getElem?_cons_zero]; rfl) (by kernel_rfl) (by kernel_rfl) (by kernel_rfl) (by exact fun _ _ _ h => h) (Or.inl ⟨by rfl, fun W hSW => yields_load_row _ _ rfl _ _ _ rfl (rlC W hSW) huC rfl hzC⟩) hOn ?_
    try simp only [Act.put, List.setIfInBounds_toArray, List.set_cons_zero, List.set_cons_succ]
    refine wpAnyH_take (i := 13) (v := Value.agg _) (by simp only [List.getElem?_toArray, List.getElem?_cons_succ, List.getElem?_cons_zero]; rfl) (by kernel_rfl) (by kernel_rfl) (by kernel_rfl) (by exact fun _ _ _ h => h) (Or.inl ⟨by rfl, fun W hSW => yields_load_row _ _ rfl _ _ _ rfl (rlC W hSW) huC rfl hzC⟩) hOn ?_
    try simp only [Act.put, List.setIfInBounds_toArray, List.set_cons_zero, List.set_cons_succ]
    refine wpAnyH_ready (rs := [14]) (by kernel_rfl) (by simp) ?_
    refine AllReadyH.cons (by simp only [List.getElem?_toArray, List.getElem?_cons_succ, List.getElem?_cons_zero]; rfl) (fun Kz hKz => ?_) AllReadyH.nil
    go_simp
    (with_reducible refine (hsaa.out _ (Grown.trans hg7.out hOn)).mono ?_)
    rintro e w8 ⟨rfl, hnew⟩
    have hg8 := Lib.hid (Grown.trans (Grown.trans hg7.out hOn) hnew)
    clear rlC hsaa hg7
    go_wp2_with fail
    refine hKz.out _ _ (Grown.trans hOn hnew) (fun hNext => ?_)
    clear hKz Kz hOn
    refine wpAnyH_onward hNext (fun hOn => ?_)
    clear hNext hnew
    try simp only [Act.put, List.setIfInBounds_toArray, List.set_cons_zero, List.set_cons_succ]
    refine wpAnyH_take (i := 15) (v := ?_) (by simp only [List.getElem?_toArray, List.getElem?_cons_succ, List.getElem?_cons_zero]; rfl) (by kernel_rfl) (by kernel_rfl) (by kernel_rfl) (by exact fun _ _ _ h => h) (Or.inl ⟨by rfl, ?_⟩) hOn ?_
    rotate_left
    focus (intro W hSW; go_simp; try with_reducible rfl)
    try simp only [Act.put, List.setIfInBounds_toArray, List.set_cons_zero, List.set_cons_succ]
    refine wpAnyH_take (i := 16) (v := ?_) (by simp only [List.getElem?_toArray, List.getElem?_cons_succ, List.getElem?_cons_zero]; rfl) (by kernel_rfl) (by kernel_rfl) (by kernel_rfl) (by exact fun _ _ _ h => h) (Or.inl ⟨by rfl, ?_⟩) hOn ?_
    rotate_left
    focus (intro W hSW; go_simp; try with_reducible rfl)
    try simp only [Act.put, List.setIfInBounds_toArray, List.set_cons_zero, List.set_cons_succ]
    refine wpAnyH_done (by kernel_rfl) ?_ _
    have hg9 := Lib.hid (Grown.trans hg8.out hOn)
    clear hOn hg8
    generalize hwd : wd = w9 at *
    clear hwd
    have hrX9 := Lib.hid (rowG hrX.out _ hg9.out)
    have hrV9 := Lib.hid (rowG hrV.out _ hg9.out)
    have hrr := Lib.hid (hro.out _ hg9.out)
    have hzcK := Tryd.underlying36
    go_wp2_with (with_reducible refine wpList_load_row rfl 36 (.tmp 7) rfl bx XV _ rfl hrX9 hzcK rfl hszX ?_)
    with_reducible refine hrr.out.mono ?_
    rintro e w10 ⟨rfl, hnew⟩
    have hg10 := Lib.hid (Grown.trans hg9.out hnew)
    clear hnew hrr hrX9 hrV9 huA hzA huB hzB huC hzC
    go_wp2_with fail
    go_loopw [11, 80] (fun s j wr => ∃ i : Nat, i ≤ 5 ∧ s = .bool (eqTo F f i) ∧ j = .int .i64 i ∧ Grown w5 wr) (fun _ j _ => 5 - (intOf j).toNat)
    case atStart => exact ⟨0, Nat.zero_le _, rfl, rfl, hg10.out⟩
    case round =>
      obtain ⟨i, hi, rfl, rfl, hg⟩ := hrel
      by_cases hlt : i < 5
      · have hli : (i : Int) < 5 := by omega
        obtain ⟨ax, cx, ex, hax⟩ := (hfX.out.below hg).2 i hlt
        obtain ⟨av, cv, ev, hav⟩ := (hvv.out.below hg).2 i hlt
        have hidx := hixX.out i hlt _ ex
        have hidv := hixV.out i hlt _ ev
        have v1 := convE hax _ rfl
        have v2 := convE hav _ rfl
        have hs := str_eq (F i) (f i)
        have hnx : eqTo F f (i + 1) = (eqTo F f i && decide (F i = f i)) := rfl
        replace hg := Lib.hid hg; replace hax := Lib.hid hax; replace hav := Lib.hid hav; replace ex := Lib.hid ex; replace ev := Lib.hid ev; replace hs := Lib.hid hs; replace hnx := Lib.hid hnx
        have huA := Tryd.underlying36
        have hzA := hszV
        have rlA := rowG (rowG hrV.out _ hg.out)
        generalize hGL : F i = B1 at *
        generalize hFL : f i = B2 at *
        cases hE : eqTo F f i
        · replace hE := Lib.hid hE
          go_wp2_with fail
          refine wp_region_on2 (by kernel_rfl) (fun wd hOn => ?_)
          refine wpAnyH_take (i := 0) (v := ?_) (by simp only [List.getElem?_toArray, List.getElem?_cons_zero]; rfl) (by kernel_rfl) (by kernel_rfl) (by kernel_rfl) (by exact fun _ _ _ h => h) (Or.inl ⟨by rfl, ?_⟩) hOn ?_
          rotate_left
          focus (intro W hSW; go_simp; try with_reducible rfl)
          try simp only [Act.put, List.setIfInBounds_toArray, List.set_cons_zero, List.set_cons_succ]
          refine wpAnyH_take (i := 1) (v := ?_) (by simp only [List.getElem?_toArray, List.getElem?_cons_succ, List.getElem?_cons_zero]; rfl) (by kernel_rfl) (by kernel_rfl) (by kernel_rfl) (by exact fun _ _ _ h => h) (Or.inl ⟨by rfl, ?_⟩) hOn ?_
          rotate_left
          focus (intro W hSW; go_simp; try with_reducible rfl)
          try simp only [Act.put, List.setIfInBounds_toArray, List.set_cons_zero, List.set_cons_succ]
          refine wpAnyH_take (i := 2) (v := undef) (by simp only [List.getElem?_toArray, List.getElem?_cons_succ, List.getElem?_cons_zero]; rfl) (by kernel_rfl) (by kernel_rfl) (by kernel_rfl) (by exact fun _ _ _ h => h) (Or.inr ⟨by rfl, rfl⟩) hOn ?_
          try simp only [Act.put, List.setIfInBounds_toArray, List.set_cons_zero, List.set_cons_succ]
          refine wpAnyH_take (i := 3) (v := undef) (by simp only [List.getElem?_toArray, List.getElem?_cons_succ, List.getElem?_cons_zero]; rfl) (by kernel_rfl) (by kernel_rfl) (by kernel_rfl) (by exact fun _ _ _ h => h) (Or.inr ⟨by rfl, rfl⟩) hOn ?_
          try simp only [Act.put, List.setIfInBounds_toArray, List.set_cons_zero, List.set_cons_succ]
          refine wpAnyH_take (i := 4) (v := undef) (by simp only [List.getElem?_toArray, List.getElem?_cons_succ, List.getElem?_cons_zero]; rfl) (by kernel_rfl) (by kernel_rfl) (by kernel_rfl) (by exact fun _ _ _ h => h) (Or.inr ⟨by rfl, rfl⟩) hOn ?_
          try simp only [Act.put, List.setIfInBounds_toArray, List.set_cons_zero, List.set_cons_succ]
          refine wpAnyH_take (i := 5) (v := undef) (by simp only [List.getElem?_toArray, List.getElem?_cons_succ, List.getElem?_cons_zero]; rfl) (by kernel_rfl) (by kernel_rfl) (by kernel_rfl) (by exact fun _ _ _ h => h) (Or.inr ⟨by rfl, rfl⟩) hOn ?_
          try simp only [Act.put, List.setIfInBounds_toArray, List.set_cons_zero, List.set_cons_succ]
          refine wpAnyH_take (i := 6) (v := undef) (by simp only [List.getElem?_toArray, List.getElem?_cons_succ, List.getElem?_cons_zero]; rfl) (by kernel_rfl) (by kernel_rfl) (by kernel_rfl) (by exact fun _ _ _ h => h) (Or.inr ⟨by rfl, rfl⟩) hOn ?_
          try simp only [Act.put, List.setIfInBounds_toArray, List.set_cons_zero, List.set_cons_succ]
          refine wpAnyH_take (i := 7) (v := undef) (by simp only [List.getElem?_toArray, List.getElem?_cons_succ, List.getElem?_cons_zero]; rfl) (by kernel_rfl) (by kernel_rfl) (by kernel_rfl) (by exact fun _ _ _ h => h) (Or.inr ⟨by rfl, rfl⟩) hOn ?_
          try simp only [Act.put, List.setIfInBounds_toArray, List.set_cons_zero, List.set_cons_succ]
          refine wpAnyH_take (i := 8) (v := undef) (by simp only [List.getElem?_toArray, List.getElem?_cons_succ, List.getElem?_cons_zero]; rfl) (by kernel_rfl) (by kernel_rfl) (by kernel_rfl) (by exact fun _ _ _ h => h) (Or.inr ⟨by rfl, rfl⟩) hOn ?_
          try simp only [Act.put, List.setIfInBounds_toArray, List.set_cons_zero, List.set_cons_succ]
          refine wpAnyH_take (i := 9) (v := undef) (by simp only [List.getElem?_toArray, List.getElem?_cons_succ, List.getElem?_cons_zero]; rfl) (by kernel_rfl) (by kernel_rfl) (by kernel_rfl) (by exact fun _ _ _ h => h) (Or.inr ⟨by rfl, rfl⟩) hOn ?_
          try simp only [Act.put, List.setIfInBounds_toArray, List.set_cons_zero, List.set_cons_succ]
          refine wpAnyH_take (i := 10) (v := ?_) (by simp only [List.getElem?_toArray, List.getElem?_cons_succ, List.getElem?_cons_zero]; rfl) (by kernel_rfl) (by kernel_rfl) (by kernel_rfl) (by exact fun _ _ _ h => h) (Or.inl ⟨by rfl, ?_⟩) hOn ?_
          rotate_left
          focus (intro W hSW; go_simp; try with_reducible rfl)
          try simp only [Act.put, List.setIfInBounds_toArray, List.set_cons_zero, List.set_cons_succ]
          refine wpAnyH_take (i := 11) (v := ?_) (by simp only [List.getElem?_toArray, List.getElem?_cons_succ, List.getElem?_cons_zero]; rfl) (by kernel_rfl) (by kernel_rfl) (by kernel_rfl) (by exact fun _ _ _ h => h) (Or.inl ⟨by rfl, ?_⟩) hOn ?_
          rotate_left
          focus (intro W hSW; go_simp; try with_reducible rfl)
          try simp only [Act.put, List.setIfInBounds_toArray, List.set_cons_zero, List.set_cons_succ]
          refine wpAnyH_done (by kernel_rfl) ?_ _
          have hb := Lib.hid (Grown.trans hg.out hOn)
          clear hOn
          go_wp2_with fail
          exact ⟨⟨i + 1, by omega, by rw [hnx.out, hE.out]; rfl, by go_num, hb.out⟩, by simp [intOf]; omega⟩
        · replace hE := Lib.hid hE
          go_wp2_with fail
          refine wp_region_on2 (by kernel_rfl) (fun wd hOn => ?_)
          refine wpAnyH_take (i := 0) (v := ?_) (by simp only [List.getElem?_toArray, List.getElem?_cons_zero]; rfl) (by kernel_rfl) (by kernel_rfl) (by kernel_rfl) (by exact fun _ _ _ h => h) (Or.inl ⟨by rfl, ?_⟩) hOn ?_
          rotate_left
          focus (intro W hSW; go_simp; try with_reducible rfl)
          try simp only [Act.put, List.setIfInBounds_toArray, List.set_cons_zero, List.set_cons_succ]
          refine wpAnyH_take (i := 1) (v := ?_) (by simp only [List.getElem?_toArray, List.getElem?_cons_succ, List.getElem?_cons_zero]; rfl) (by kernel_rfl) (by kernel_rfl) (by kernel_rfl) (by exact fun _ _ _ h => h) (Or.inl ⟨by rfl, ?_⟩) hOn ?_
          rotate_left
          focus (intro W hSW; go_simp; try with_reducible rfl)
          try simp only [Act.put, List.setIfInBounds_toArray, List.set_cons_zero, List.set_cons_succ]
          refine wpAnyH_take (i := 2) (v := ?_) (by simp only [List.getElem?_toArray, List.getElem?_cons_succ, List.getElem?_cons_zero]; rfl) (by kernel_rfl) (by kernel_rfl) (by kernel_rfl) (by exact fun _ _ _ h => h) (Or.inl ⟨by rfl, ?_⟩) hOn ?_
          rotate_left
          focus (intro W hSW; go_simp; try with_reducible rfl)
          try simp only [Act.put, List.setIfInBounds_toArray, List.set_cons_zero, List.set_cons_succ]
          refine wpAnyH_take (i := 3) (v := ?_) (by simp only [List.getElem?_toArray, List.getElem?_cons_succ, List.getElem?_cons_zero]; rfl) (by kernel_rfl) (by kernel_rfl) (by kernel_rfl) (by exact fun _ _ _ h => h) (Or.inl ⟨by rfl, ?_⟩) hOn ?_
          rotate_left
          focus (intro W hSW; go_simp; try with_reducible rfl)
          try simp only [Act.put, List.setIfInBounds_toArray, List.set_cons_zero, List.set_cons_succ]
          refine wpAnyH_take (i := 4) (v := Value.agg _) (by simp only [List.getElem?_toArray, List.getElem?_cons_succ, List.getElem?_cons_zero]; rfl) (by kernel_rfl) (by kernel_rfl) (by kernel_rfl) (by exact fun _ _ _ h => h) (Or.inl ⟨by rfl, fun W hSW => yields_load_row _ _ rfl _ _ _ rfl (rlA W hSW) huA rfl hzA⟩) hOn ?_
          try simp only [Act.put, List.setIfInBounds_toArray, List.set_cons_zero, List.set_cons_succ]
          refine wpAnyH_take (i := 6) (v := ?_) (by simp only [List.getElem?_toArray, List.getElem?_cons_succ, List.getElem?_cons_zero]; rfl) (by kernel_rfl) (by kernel_rfl) (by kernel_rfl) (by exact fun _ _ _ h => h) (Or.inl ⟨by rfl, ?_⟩) hOn ?_
          rotate_left
          focus (intro W hSW; go_simp; try with_reducible rfl)
          try simp only [Act.put, List.setIfInBounds_toArray, List.set_cons_zero, List.set_cons_succ]
          refine wpAnyH_ready (rs := [5]) (by kernel_rfl) (by simp) ?_
          refine AllReadyH.cons (by simp only [List.getElem?_toArray, List.getElem?_cons_succ, List.getElem?_cons_zero]; rfl) (fun Kz hKz => ?_) AllReadyH.nil
          go_simp
          (with_reducible refine (hrv.out _ (Grown.trans hg.out hOn)).mono ?_)
          rintro e w11 ⟨rfl, hnew⟩
          have hgz := Lib.hid (Grown.trans hOn hnew)
          replace hg := Lib.hid (Grown.trans hg.out hgz.out)
          (try replace v1 := keepCS v1 hgz.out)
          (try replace v2 := keepCS v2 hgz.out)
          clear hgz rlA
          go_wp2_with fail
          refine hKz.out _ _ (Grown.trans hOn hnew) (fun hNext => ?_)
          clear hKz Kz hOn
          refine wpAnyH_onward hNext (fun hOn => ?_)
          clear hNext hnew
          try simp only [Act.put, List.setIfInBounds_toArray, List.set_cons_zero, List.set_cons_succ]
          refine wpAnyH_ready (rs := [7]) (by kernel_rfl) (by simp) ?_
          refine AllReadyH.cons (by simp only [List.getElem?_toArray, List.getElem?_cons_succ, List.getElem?_cons_zero]; rfl) (fun Kz hKz => ?_) AllReadyH.nil
          go_simp
          try go_wp2_with fail
          refine hKz.out _ _ (by first | exact hOn | exact Grown.alloc hOn _ | exact Below.alloc hOn (Below.size hOn) _ | exact Grown.alloc (Grown.refl _) _) (fun hNext => ?_)
          clear hKz Kz hOn
          have hOn := hNext
          clear hNext
          try simp only [Act.put, List.setIfInBounds_toArray, List.set_cons_zero, List.set_cons_succ]
          refine wpAnyH_take (i := 8) (v := ?_) (by simp only [List.getElem?_toArray, List.getElem?_cons_succ, List.getElem?_cons_zero]; rfl) (by kernel_rfl) (by kernel_rfl) (by kernel_rfl) (by exact fun _ _ _ h => h) (Or.inl ⟨by rfl, ?_⟩) hOn ?_
          rotate_left
          focus (intro W hSW; go_simp; try with_reducible rfl)
          try simp only [Act.put, List.setIfInBounds_toArray, List.set_cons_zero, List.set_cons_succ]
          refine wpAnyH_take (i := 9) (v := ?_) (by simp only [List.getElem?_toArray, List.getElem?_cons_succ, List.getElem?_cons_zero]; rfl) (by kernel_rfl) (by kernel_rfl) (by kernel_rfl) (by exact fun _ _ _ h => h) (Or.inl ⟨by rfl, ?_⟩) hOn ?_
          rotate_left
          focus (intro W hSW; go_simp; try with_reducible rfl)
          try simp only [Act.put, List.setIfInBounds_toArray, List.set_cons_zero, List.set_cons_succ]
          refine wpAnyH_take (i := 10) (v := ?_) (by simp only [List.getElem?_toArray, List.getElem?_cons_succ, List.getElem?_cons_zero]; rfl) (by kernel_rfl) (by kernel_rfl) (by kernel_rfl) (by exact fun _ _ _ h => h) (Or.inl ⟨by rfl, ?_⟩) hOn ?_
          rotate_left
          focus (intro W hSW; go_simp; try with_reducible rfl)
          try simp only [Act.put, List.setIfInBounds_toArray, List.set_cons_zero, List.set_cons_succ]
          refine wpAnyH_take (i := 11) (v := ?_) (by simp only [List.getElem?_toArray, List.getElem?_cons_succ, List.getElem?_cons_zero]; rfl) (by kernel_rfl) (by kernel_rfl) (by kernel_rfl) (by exact fun _ _ _ h => h) (Or.inl ⟨by rfl, ?_⟩) hOn ?_
          rotate_left
          focus (intro W hSW; go_simp; try with_reducible rfl)
          try simp only [Act.put, List.setIfInBounds_toArray, List.set_cons_zero, List.set_cons_succ]
          refine wpAnyH_done (by kernel_rfl) ?_ _
          have hb := Lib.hid (Grown.trans hg.out hOn)
          clear hOn
          go_wp2_with fail
          refine ⟨⟨i + 1, by omega, ?_, by go_num, hb.out⟩, by simp [intOf]; omega⟩
          rw [hnx.out, hE.out]
          simp
          rw [Bool.eq_iff_iff]
          simp
      · obtain rfl : i = 5 := by omega
        have hrXw := Lib.hid (rowG hrX.out _ hg)
        have hrVw := Lib.hid (rowG hrV.out _ hg)
        have hq := Lib.hid (hsxa.out _ hg)
        replace hg := Lib.hid hg
        go_wp2_with (first | with_reducible refine wpList_load_row rfl 36 (.tmp 7) rfl bx XV _ rfl hrXw hzcK rfl hszX ?_ | with_reducible refine wpList_load_row rfl 36 (.tmp 5) rfl w.heap.size VV _ rfl hrVw hzcK rfl hszV ?_)
        with_reducible refine hq.out.mono ?_
        rintro e w12 ⟨rfl, hnew⟩
        have hb := Lib.hid (hb1.out.trans ((Grown.trans hg.out hnew).mono hb1.out.size))
        clear hnew
        go_wp2_with fail
        go_ret
        exact ⟨by simp, hb.out⟩

  · obtain ⟨ze, hze⟩ : ∃ y, kE (z 0) (z 5) (z 8) bd = .iface 129 (.pointer (some y)) := ⟨_, by unfold kE; rw [if_neg hz]⟩
    rw [hze]
    clear hze hz
    have huA := Tryd.underlying36
    have hzA := hszX
    have rlA := rowG hrX.out
    have huB := Tryd.underlying36
    have hzB := hszY
    have rlB := rowG hrY.out
    have huC := Tryd.underlying36
    have hzC := hszV
    have rlC := rowG hrV.out
    go_wp2_with fail
    refine wp_region_on2 (by kernel_rfl) (fun wd hOn => ?_)
    refine wpAnyH_take (i := 0) (v := ?_) (by simp only [List.getElem?_toArray, List.getElem?_cons_zero]; rfl) (by kernel_rfl) (by kernel_rfl) (by kernel_rfl) (by exact fun _ _ _ h => h) (Or.inl ⟨by rfl, ?_⟩) hOn ?_
    rotate_left
    focus (intro W hSW; go_simp; try with_reducible rfl)
    try simp only [Act.put, List.setIfInBounds_toArray, List.set_cons_zero, List.set_cons_succ]
    refine wpAnyH_take (i := 1) (v := ?_) (by simp only [List.getElem?_toArray, List.getElem?_cons_succ, List.getElem?_cons_zero]; rfl) (by kernel_rfl) (by kernel_rfl) (by kernel_rfl) (by exact fun _ _ _ h => h) (Or.inl ⟨by rfl, ?_⟩) hOn ?_
    rotate_left
    focus (intro W hSW; go_simp; try with_reducible rfl)
    try simp only [Act.put, List.setIfInBounds_toArray, List.set_cons_zero, List.set_cons_succ]
    refine wpAnyH_take (i := 2) (v := ?_) (by simp only [List.getElem?_toArray, List.getElem?_cons_succ, List.getElem?_cons_zero]; rfl) (by kernel_rfl) (by kernel_rfl) (by kernel_rfl) (by exact fun _ _ _ h => h) (Or.inl ⟨by rfl, ?_⟩) hOn ?_
    rotate_left
    focus (intro W hSW; go_simp; try with_reducible rfl)
    try simp only [Act.put, List.setIfInBounds_toArray, List.set_cons_zero, List.set_cons_succ]
    refine wpAnyH_take (i := 3) (v := ?_) (by simp only [List.getElem?_toArray, List.getElem?_cons_succ, List.getElem?_cons_zero]; rfl) (by kernel_rfl) (by kernel_rfl) (by kernel_rfl) (by exact fun _ _ _ h => h) (Or.inl ⟨by rfl, ?_⟩) hOn ?_
    rotate_left
    focus (intro W hSW; go_simp; try with_reducible rfl)
    try simp only [Act.put, List.setIfInBounds_toArray, List.set_cons_zero, List.set_cons_succ]
    refine wpAnyH_take (i := 4) (v := ?_) (by simp only [List.getElem?_toArray, List.getElem?_cons_succ, List.getElem?_cons_zero]; rfl) (by kernel_rfl) (by kernel_rfl) (by kernel_rfl) (by exact fun _ _ _ h => h) (Or.inl ⟨by rfl, ?_⟩) hOn ?_
    rotate_left
    focus (intro W hSW; go_simp; try with_reducible rfl)
    try simp only [Act.put, List.setIfInBounds_toArray, List.set_cons_zero, List.set_cons_succ]
    refine wpAnyH_take (i := 5) (v := ?_) (by simp only [List.getElem?_toArray, List.getElem?_cons_succ, List.getElem?_cons_zero]; rfl) (by kernel_rfl) (by kernel_rfl) (by kernel_rfl) (by exact fun _ _ _ h => h) (Or.inl ⟨by rfl, ?_⟩) hOn ?_
    rotate_left
    focus (intro W hSW; go_simp; try with_reducible rfl)
    try simp only [Act.put, List.setIfInBounds_toArray, List.set_cons_zero, List.set_cons_succ]
    refine wpAnyH_take (i := 6) (v := Value.agg _) (by simp only [List.getElem?_toArray, List.getElem?_cons_succ, List.getElem?_cons_zero]; rfl) (by kernel_rfl) (by kernel_rfl) (by kernel_rfl) (by exact fun _ _ _ h => h) (Or.inl ⟨by rfl, fun W hSW => yields_load_row _ _ rfl _ _ _ rfl (rlA W hSW) huA rfl hzA⟩) hOn ?_
    try simp only [Act.put, List.setIfInBounds_toArray, List.set_cons_zero, List.set_cons_succ]
    refine wpAnyH_take (i := 7) (v := Value.agg _) (by simp only [List.getElem?_toArray, List.getElem?_cons_succ, List.getElem?_cons_zero]; rfl) (by kernel_rfl) (by kernel_rfl) (by kernel_rfl) (by exact fun _ _ _ h => h) (Or.inl ⟨by rfl, fun W hSW => yields_load_row _ _ rfl _ _ _ rfl (rlB W hSW) huB rfl hzB⟩) hOn ?_
    try simp only [Act.put, List.setIfInBounds_toArray, List.set_cons_zero, List.set_cons_succ]
    refine wpAnyH_ready (rs := [8]) (by kernel_rfl) (by simp) ?_
    refine AllReadyH.cons (by simp only [List.getElem?_toArray, List.getElem?_cons_succ, List.getElem?_cons_zero]; rfl) (fun Kz hKz => ?_) AllReadyH.nil
    go_simp
    (with_reducible refine (hsxy.out _ hOn).mono ?_)
    rintro e w7 ⟨rfl, hnew⟩
    have hg7 := Lib.hid (Grown.trans hOn hnew)
    (try replace rlC := keepCS rlC hg7.out)
    clear rlA rlB hsxy
    go_wp2_with fail
    refine hKz.out _ _ (Grown.trans hOn hnew) (fun hNext => ?_)
    clear hKz Kz hOn
    refine wpAnyH_onward hNext (fun hOn => ?_)
    clear hNext hnew
    try simp only [Act.put, List.setIfInBounds_toArray, List.set_cons_zero, List.set_cons_succ]
    refine wpAnyH_take (i := 9) (v := ?_) (by simp only [List.getElem?_toArray, List.getElem?_cons_succ, List.getElem?_cons_zero]; rfl) (by kernel_rfl) (by kernel_rfl) (by kernel_rfl) (by exact fun _ _ _ h => h) (Or.inl ⟨by rfl, ?_⟩) hOn ?_
    rotate_left
    focus (intro W hSW; go_simp; try with_reducible rfl)
    try simp only [Act.put, List.setIfInBounds_toArray, List.set_cons_zero, List.set_cons_succ]
    refine wpAnyH_take (i := 10) (v := ?_) (by simp only [List.getElem?_toArray, List.getElem?_cons_succ, List.getElem?_cons_zero]; rfl) (by kernel_rfl) (by kernel_rfl) (by kernel_rfl) (by exact fun _ _ _ h => h) (Or.inl ⟨by rfl, ?_⟩) hOn ?_
    rotate_left
    focus (intro W hSW; go_simp; try with_reducible rfl)
    try simp only [Act.put, List.setIfInBounds_toArray, List.set_cons_zero, List.set_cons_succ]
    refine wpAnyH_take (i := 11) (v := ?_) (by simp only [List.getElem?_toArray, List.getElem?_cons_succ, List.getElem?_cons_zero]; rfl) (by kernel_rfl) (by kernel_rfl) (by kernel_rfl) (by exact fun _ _ _ h => h) (Or.inl ⟨by rfl, ?_⟩) hOn ?_
    rotate_left
    focus (intro W hSW; go_simp; try with_reducible rfl)
    try simp only [Act.put, List.setIfInBounds_toArray, List.set_cons_zero, List.set_cons_succ]
    refine wpAnyH_take (i := 12) (v := Value.agg _) (by simp only [List.getElem?_toArray, List.getElem?_cons_succ, List.getElem?_cons_zero]; rfl) (by kernel_rfl) (by kernel_rfl) (by kernel_rfl) (by exact fun _ _ _ h => h) (Or.inl ⟨by rfl, fun W hSW => yields_load_row _ _ rfl _ _ _ rfl (rlC W hSW) huC rfl hzC⟩) hOn ?_
    try simp only [Act.put, List.setIfInBounds_toArray, List.set_cons_zero, List.set_cons_succ]
    refine wpAnyH_take (i := 13) (v := Value.agg _) (by simp only [List.getElem?_toArray, List.getElem?_cons_succ, List.getElem?_cons_zero]; rfl) (by kernel_rfl) (by kernel_rfl) (by kernel_rfl) (by exact fun _ _ _ h => h) (Or.inl ⟨by rfl, fun W hSW => yields_load_row _ _ rfl _ _ _ rfl (rlC W hSW) huC rfl hzC⟩) hOn ?_
    try simp only [Act.put, List.setIfInBounds_toArray, List.set_cons_zero, List.set_cons_succ]
    refine wpAnyH_ready (rs := [14]) (by kernel_rfl) (by simp) ?_
    refine AllReadyH.cons (by simp only [List.getElem?_toArray, List.getElem?_cons_succ, List.getElem?_cons_zero]; rfl) (fun Kz hKz => ?_) AllReadyH.nil
    go_simp
    (with_reducible refine (hsaa.out _ (Grown.trans hg7.out hOn)).mono ?_)
    rintro e w8 ⟨rfl, hnew⟩
    have hg8 := Lib.hid (Grown.trans (Grown.trans hg7.out hOn) hnew)
    clear rlC hsaa hg7
    go_wp2_with fail
    refine hKz.out _ _ (Grown.trans hOn hnew) (fun hNext => ?_)
    clear hKz Kz hOn
    refine wpAnyH_onward hNext (fun hOn => ?_)
    clear hNext hnew
    try simp only [Act.put, List.setIfInBounds_toArray, List.set_cons_zero, List.set_cons_succ]
    refine wpAnyH_take (i := 15) (v := ?_) (by simp only [List.getElem?_toArray, List.getElem?_cons_succ, List.getElem?_cons_zero]; rfl) (by kernel_rfl) (by kernel_rfl) (by kernel_rfl) (by exact fun _ _ _ h => h) (Or.inl ⟨by rfl, ?_⟩) hOn ?_
    rotate_left
    focus (intro W hSW; go_simp; try with_reducible rfl)
    try simp only [Act.put, List.setIfInBounds_toArray, List.set_cons_zero, List.set_cons_succ]
    refine wpAnyH_take (i := 16) (v := ?_) (by simp only [List.getElem?_toArray, List.getElem?_cons_succ, List.getElem?_cons_zero]; rfl) (by kernel_rfl) (by kernel_rfl) (by kernel_rfl) (by exact fun _ _ _ h => h) (Or.inl ⟨by rfl, ?_⟩) hOn ?_
    rotate_left
    focus (intro W hSW; go_simp; try with_reducible rfl)
    try simp only [Act.put, List.setIfInBounds_toArray, List.set_cons_zero, List.set_cons_succ]
    refine wpAnyH_done (by kernel_rfl) ?_ _
    have hg9 := Lib.hid (Grown.trans hg8.out hOn)
    clear hOn hg8
    generalize hwd : wd = w9 at *
    clear hwd
    have hrX9 := Lib.hid (rowG hrX.out _ hg9.out)
    have hrV9 := Lib.hid (rowG hrV.out _ hg9.out)
    have hrr := Lib.hid (hro.out _ hg9.out)
    have hzcK := Tryd.underlying36
    go_wp2_with (with_reducible refine wpList_load_row rfl 36 (.tmp 7) rfl bx XV _ rfl hrX9 hzcK rfl hszX ?_)
    with_reducible refine hrr.out.mono ?_
    rintro e w10 ⟨rfl, hnew⟩
    have hg10 := Lib.hid (Grown.trans hg9.out hnew)
    clear hnew hrr hrX9 hrV9 huA hzA huB hzB huC hzC
    go_wp2_with fail
    go_loopw [11, 80] (fun s j wr => ∃ i : Nat, i ≤ 5 ∧ s = .bool (eqTo F f i) ∧ j = .int .i64 i ∧ Grown w5 wr) (fun _ j _ => 5 - (intOf j).toNat)
    case atStart => exact ⟨0, Nat.zero_le _, rfl, rfl, hg10.out⟩
    case round =>
      obtain ⟨i, hi, rfl, rfl, hg⟩ := hrel
      by_cases hlt : i < 5
      · have hli : (i : Int) < 5 := by omega
        obtain ⟨ax, cx, ex, hax⟩ := (hfX.out.below hg).2 i hlt
        obtain ⟨av, cv, ev, hav⟩ := (hvv.out.below hg).2 i hlt
        have hidx := hixX.out i hlt _ ex
        have hidv := hixV.out i hlt _ ev
        have v1 := convE hax _ rfl
        have v2 := convE hav _ rfl
        have hs := str_eq (F i) (f i)
        have hnx : eqTo F f (i + 1) = (eqTo F f i && decide (F i = f i)) := rfl
        replace hg := Lib.hid hg; replace hax := Lib.hid hax; replace hav := Lib.hid hav; replace ex := Lib.hid ex; replace ev := Lib.hid ev; replace hs := Lib.hid hs; replace hnx := Lib.hid hnx
        have huA := Tryd.underlying36
        have hzA := hszV
        have rlA := rowG (rowG hrV.out _ hg.out)
        generalize hGL : F i = B1 at *
        generalize hFL : f i = B2 at *
        cases hE : eqTo F f i
        · replace hE := Lib.hid hE
          go_wp2_with fail
          refine wp_region_on2 (by kernel_rfl) (fun wd hOn => ?_)
          refine wpAnyH_take (i := 0) (v := ?_) (by simp only [List.getElem?_toArray, List.getElem?_cons_zero]; rfl) (by kernel_rfl) (by kernel_rfl) (by kernel_rfl) (by exact fun _ _ _ h => h) (Or.inl ⟨by rfl, ?_⟩) hOn ?_
          rotate_left
          focus (intro W hSW; go_simp; try with_reducible rfl)
          try simp only [Act.put, List.setIfInBounds_toArray, List.set_cons_zero, List.set_cons_succ]
          refine wpAnyH_take (i := 1) (v := ?_) (by simp only [List.getElem?_toArray, List.getElem?_cons_succ, List.getElem?_cons_zero]; rfl) (by kernel_rfl) (by kernel_rfl) (by kernel_rfl) (by exact fun _ _ _ h => h) (Or.inl ⟨by rfl, ?_⟩) hOn ?_
          rotate_left
          focus (intro W hSW; go_simp; try with_reducible rfl)
          try simp only [Act.put, List.setIfInBounds_toArray, List.set_cons_zero, List.set_cons_succ]
          refine wpAnyH_take (i := 2) (v := undef) (by simp only [List.getElem?_toArray, List.getElem?_cons_succ, List.getElem?_cons_zero]; rfl) (by kernel_rfl) (by kernel_rfl) (by kernel_rfl) (by exact fun _ _ _ h => h) (Or.inr ⟨by rfl, rfl⟩) hOn ?_
          try simp only [Act.put, List.setIfInBounds_toArray, List.set_cons_zero, List.set_cons_succ]
          refine wpAnyH_take (i := 3) (v := undef) (by simp only [List.getElem?_toArray, List.getElem?_cons_succ, List.getElem?_cons_zero]; rfl) (by kernel_rfl) (by kernel_rfl) (by kernel_rfl) (by exact fun _ _ _ h => h) (Or.inr ⟨by rfl, rfl⟩) hOn ?_
          try simp only [Act.put, List.setIfInBounds_toArray, List.set_cons_zero, List.set_cons_succ]
          refine wpAnyH_take (i := 4) (v := undef) (by simp only [List.getElem?_toArray, List.getElem?_cons_succ, List.getElem?_cons_zero]; rfl) (by kernel_rfl) (by kernel_rfl) (by kernel_rfl) (by exact fun _ _ _ h => h) (Or.inr ⟨by rfl, rfl⟩) hOn ?_
          try simp only [Act.put, List.setIfInBounds_toArray, List.set_cons_zero, List.set_cons_succ]
          refine wpAnyH_take (i := 5) (v := undef) (by simp only [List.getElem?_toArray, List.getElem?_cons_succ, List.getElem?_cons_zero]; rfl) (by kernel_rfl) (by kernel_rfl) (by kernel_rfl) (by exact fun _ _ _ h => h) (Or.inr ⟨by rfl, rfl⟩) hOn ?_
          try simp only [Act.put, List.setIfInBounds_toArray, List.set_cons_zero, List.set_cons_succ]
          refine wpAnyH_take (i := 6) (v := undef) (by simp only [List.getElem?_toArray, List.getElem?_cons_succ, List.getElem?_cons_zero]; rfl) (by kernel_rfl) (by kernel_rfl) (by kernel_rfl) (by exact fun _ _ _ h => h) (Or.inr ⟨by rfl, rfl⟩) hOn ?_
          try simp only [Act.put, List.setIfInBounds_toArray, List.set_cons_zero, List.set_cons_succ]
          refine wpAnyH_take (i := 7) (v := undef) (by simp only [List.getElem?_toArray, List.getElem?_cons_succ, List.getElem?_cons_zero]; rfl) (by kernel_rfl) (by kernel_rfl) (by kernel_rfl) (by exact fun _ _ _ h => h) (Or.inr ⟨by rfl, rfl⟩) hOn ?_
          try simp only [Act.put, List.setIfInBounds_toArray, List.set_cons_zero, List.set_cons_succ]
          refine wpAnyH_take (i := 8) (v := undef) (by simp only [List.getElem?_toArray, List.getElem?_cons_succ, List.getElem?_cons_zero]; rfl) (by kernel_rfl) (by kernel_rfl) (by kernel_rfl) (by exact fun _ _ _ h => h) (Or.inr ⟨by rfl, rfl⟩) hOn ?_
          try simp only [Act.put, List.setIfInBounds_toArray, List.set_cons_zero, List.set_cons_succ]
          refine wpAnyH_take (i := 9) (v := undef) (by simp only [List.getElem?_toArray, List.getElem?_cons_succ, List.getElem?_cons_zero]; rfl) (by kernel_rfl) (by kernel_rfl) (by kernel_rfl) (by exact fun _ _ _ h => h) (Or.inr ⟨by rfl, rfl⟩) hOn ?_
          try simp only [Act.put, List.setIfInBounds_toArray, List.set_cons_zero, List.set_cons_succ]
          refine wpAnyH_take (i := 10) (v := ?_) (by simp only [List.getElem?_toArray, List.getElem?_cons_succ, List.getElem?_cons_zero]; rfl) (by kernel_rfl) (by kernel_rfl) (by kernel_rfl) (by exact fun _ _ _ h => h) (Or.inl ⟨by rfl, ?_⟩) hOn ?_
          rotate_left
          focus (intro W hSW; go_simp; try with_reducible rfl)
          try simp only [Act.put, List.setIfInBounds_toArray, List.set_cons_zero, List.set_cons_succ]
          refine wpAnyH_take (i := 11) (v := ?_) (by simp only [List.getElem?_toArray, List.getElem?_cons_succ, List.getElem?_cons_zero]; rfl) (by kernel_rfl) (by kernel_rfl) (by kernel_rfl) (by exact fun _ _ _ h => h) (Or.inl ⟨by rfl, ?_⟩) hOn ?_
          rotate_left
          focus (intro W hSW; go_simp; try with_reducible rfl)
          try simp only [Act.put, List.setIfInBounds_toArray, List.set_cons_zero, List.set_cons_succ]
          refine wpAnyH_done (by kernel_rfl) ?_ _
          have hb := Lib.hid (Grown.trans hg.out hOn)
          clear hOn
          go_wp2_with fail
          exact ⟨⟨i + 1, by omega, by rw [hnx.out, hE.out]; rfl, by go_num, hb.out⟩, by simp [intOf]; omega⟩
        · replace hE := Lib.hid hE
          go_wp2_with fail
          refine wp_region_on2 (by kernel_rfl) (fun wd hOn => ?_)
          refine wpAnyH_take (i := 0) (v := ?_) (by simp only [List.getElem?_toArray, List.getElem?_cons_zero]; rfl) (by kernel_rfl) (by kernel_rfl) (by kernel_rfl) (by exact fun _ _ _ h => h) (Or.inl ⟨by rfl, ?_⟩) hOn ?_
          rotate_left
          focus (intro W hSW; go_simp; try with_reducible rfl)
          try simp only [Act.put, List.setIfInBounds_toArray, List.set_cons_zero, List.set_cons_succ]
          refine wpAnyH_take (i := 1) (v := ?_) (by simp only [List.getElem?_toArray, List.getElem?_cons_succ, List.getElem?_cons_zero]; rfl) (by kernel_rfl) (by kernel_rfl) (by kernel_rfl) (by exact fun _ _ _ h => h) (Or.inl ⟨by rfl, ?_⟩) hOn ?_
          rotate_left
          focus (intro W hSW; go_simp; try with_reducible rfl)
          try simp only [Act.put, List.setIfInBounds_toArray, List.set_cons_zero, List.set_cons_succ]
          refine wpAnyH_take (i := 2) (v := ?_) (by simp only [List.getElem?_toArray, List.getElem?_cons_succ, List.getElem?_cons_zero]; rfl) (by kernel_rfl) (by kernel_rfl) (by kernel_rfl) (by exact fun _ _ _ h => h) (Or.inl ⟨by rfl, ?_⟩) hOn ?_
          rotate_left
          focus (intro W hSW; go_simp; try with_reducible rfl)
          try simp only [Act.put, List.setIfInBounds_toArray, List.set_cons_zero, List.set_cons_succ]
          refine wpAnyH_take (i := 3) (v := ?_) (by simp only [List.getElem?_toArray, List.getElem?_cons_succ, List.getElem?_cons_zero]; rfl) (by kernel_rfl) (by kernel_rfl) (by kernel_rfl) (by exact fun _ _ _ h => h) (Or.inl ⟨by rfl, ?_⟩) hOn ?_
          rotate_left
          focus (intro W hSW; go_simp; try with_reducible rfl)
          try simp only [Act.put, List.setIfInBounds_toArray, List.set_cons_zero, List.set_cons_succ]
          refine wpAnyH_take (i := 4) (v := Value.agg _) (by simp only [List.getElem?_toArray, List.getElem?_cons_succ, List.getElem?_cons_zero]; rfl) (by kernel_rfl) (by kernel_rfl) (by kernel_rfl) (by exact fun _ _ _ h => h) (Or.inl ⟨by rfl, fun W hSW => yields_load_row _ _ rfl _ _ _ rfl (rlA W hSW) huA rfl hzA⟩) hOn ?_
          try simp only [Act.put, List.setIfInBounds_toArray, List.set_cons_zero, List.set_cons_succ]
          refine wpAnyH_take (i := 6) (v := ?_) (by simp only [List.getElem?_toArray, List.getElem?_cons_succ, List.getElem?_cons_zero]; rfl) (by kernel_rfl) (by kernel_rfl) (by kernel_rfl) (by exact fun _ _ _ h => h) (Or.inl ⟨by rfl, ?_⟩) hOn ?_
          rotate_left
          focus (intro W hSW; go_simp; try with_reducible rfl)
          try simp only [Act.put, List.setIfInBounds_toArray, List.set_cons_zero, List.set_cons_succ]
          refine wpAnyH_ready (rs := [5]) (by kernel_rfl) (by simp) ?_
          refine AllReadyH.cons (by simp only [List.getElem?_toArray, List.getElem?_cons_succ, List.getElem?_cons_zero]; rfl) (fun Kz hKz => ?_) AllReadyH.nil
          go_simp
          (with_reducible refine (hrv.out _ (Grown.trans hg.out hOn)).mono ?_)
          rintro e w11 ⟨rfl, hnew⟩
          have hgz := Lib.hid (Grown.trans hOn hnew)
          replace hg := Lib.hid (Grown.trans hg.out hgz.out)
          (try replace v1 := keepCS v1 hgz.out)
          (try replace v2 := keepCS v2 hgz.out)
          clear hgz rlA
          go_wp2_with fail
          refine hKz.out _ _ (Grown.trans hOn hnew) (fun hNext => ?_)
          clear hKz Kz hOn
          refine wpAnyH_onward hNext (fun hOn => ?_)
          clear hNext hnew
          try simp only [Act.put, List.setIfInBounds_toArray, List.set_cons_zero, List.set_cons_succ]
          refine wpAnyH_ready (rs := [7]) (by kernel_rfl) (by simp) ?_
          refine AllReadyH.cons (by simp only [List.getElem?_toArray, List.getElem?_cons_succ, List.getElem?_cons_zero]; rfl) (fun Kz hKz => ?_) AllReadyH.nil
          go_simp
          try go_wp2_with fail
          refine hKz.out _ _ (by first | exact hOn | exact Grown.alloc hOn _ | exact Below.alloc hOn (Below.size hOn) _ | exact Grown.alloc (Grown.refl _) _) (fun hNext => ?_)
          clear hKz Kz hOn
          have hOn := hNext
          clear hNext
          try simp only [Act.put, List.setIfInBounds_toArray, List.set_cons_zero, List.set_cons_succ]
          refine wpAnyH_take (i := 8) (v := ?_) (by simp only [List.getElem?_toArray, List.getElem?_cons_succ, List.getElem?_cons_zero]; rfl) (by kernel_rfl) (by kernel_rfl) (by kernel_rfl) (by exact fun _ _ _ h => h) (Or.inl ⟨by rfl, ?_⟩) hOn ?_
          rotate_left
          focus (intro W hSW; go_simp; try with_reducible rfl)
          try simp only [Act.put, List.setIfInBounds_toArray, List.set_cons_zero, List.set_cons_succ]
          refine wpAnyH_take (i := 9) (v := ?_) (by simp only [List.getElem?_toArray, List.getElem?_cons_succ, List.getElem?_cons_zero]; rfl) (by kernel_rfl) (by kernel_rfl) (by kernel_rfl) (by exact fun _ _ _ h => h) (Or.inl ⟨by rfl, ?_⟩) hOn ?_
          rotate_left
          focus (intro W hSW; go_simp; try with_reducible rfl)
          try simp only [Act.put, List.setIfInBounds_toArray, List.set_cons_zero, List.set_cons_succ]
          refine wpAnyH_take (i := 10) (v := ?_) (by simp only [List.getElem?_toArray, List.getElem?_cons_succ, List.getElem?_cons_zero]; rfl) (by kernel_rfl) (by kernel_rfl) (by kernel_rfl) (by exact fun _ _ _ h => h) (Or.inl ⟨by rfl, ?_⟩) hOn ?_
          rotate_left
          focus (intro W hSW; go_simp; try with_reducible rfl)
          try simp only [Act.put, List.setIfInBounds_toArray, List.set_cons_zero, List.set_cons_succ]
          refine wpAnyH_take (i := 11) (v := ?_) (by simp only [List.getElem?_toArray, List.getElem?_cons_succ, List.getElem?_cons_zero]; rfl) (by kernel_rfl) (by kernel_rfl) (by kernel_rfl) (by exact fun _ _ _ h => h) (Or.inl ⟨by rfl, ?_⟩) hOn ?_
          rotate_left
          focus (intro W hSW; go_simp; try with_reducible rfl)
          try simp only [Act.put, List.setIfInBounds_toArray, List.set_cons_zero, List.set_cons_succ]
          refine wpAnyH_done (by kernel_rfl) ?_ _
          have hb := Lib.hid (Grown.trans hg.out hOn)
          clear hOn
          go_wp2_with fail
          refine ⟨⟨i + 1, by omega, ?_, by go_num, hb.out⟩, by simp [intOf]; omega⟩
          rw [hnx.out, hE.out]
          simp
          rw [Bool.eq_iff_iff]
          simp
      · obtain rfl : i = 5 := by omega
        have hrXw := Lib.hid (rowG hrX.out _ hg)
        have hrVw := Lib.hid (rowG hrV.out _ hg)
        have hq := Lib.hid (hsxa.out _ hg)
        replace hg := Lib.hid hg
        go_wp2_with (first | with_reducible refine wpList_load_row rfl 36 (.tmp 7) rfl bx XV _ rfl hrXw hzcK rfl hszX ?_ | with_reducible refine wpList_load_row rfl 36 (.tmp 5) rfl w.heap.size VV _ rfl hrVw hzcK rfl hszV ?_)
        with_reducible refine hq.out.mono ?_
        rintro e w12 ⟨rfl, hnew⟩
        have hb := Lib.hid (hb1.out.trans ((Grown.trans hg.out hnew).mono hb1.out.size))
        clear hnew
        go_wp2_with fail
        go_ret
        exact ⟨by simp, hb.out⟩


theorem lsame_law (a1 : Option Addr) (c1 : Nat) (key : List UInt8) (n : Int) (vs : List Value) (f : Nat → List UInt8) (w : World) (h1 : ArgB w a1 c1 key) (_hn : (Lit.int IntKind.i64 n).wf = true) (hv : vs.length = 5 ∧ ∀ j, j < 5 → ∃ a c, vs[j]? = some (.slice a (f j).length c) ∧ ArgB w a c (f j))
    (z : Nat → Addr) (er : Errs 129 errGs w z) (hK : ShaK w) (hF : ShaF w) :
    Calls Tryd.prog 4 #[.slice a1 key.length c1, .int .i64 n, .agg vs.toArray] w fun e w' => e = .returned (.bool true) ∧ Below w.heap.size w w' :=
  lsame_walk a1 c1 key n vs f z w h1 hv ⟨hK, hF, er⟩

end Go.Proofs.YtfmeheolcibfeaaDoor
