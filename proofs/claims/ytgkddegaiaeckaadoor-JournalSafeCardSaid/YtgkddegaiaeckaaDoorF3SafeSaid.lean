/- The walk over sha.spread. -/
import Derived.Test.YtgkddegaiaeckaaDoorF1SafeSaid
import Derived.Test.YtgkddegaiaeckaaDoorF2SafeSaid
namespace Go.Proofs.YtgkddegaiaeckaaDoor
open Go.RowKit

/-- 64 noughts (a name of its own: the walk does not write it out). -/
@[irreducible] def zero64 : Array Value := (cW (tabW 64 fun _ => 0)).toArray
theorem zero64_run (w : World) : (zeroValue 94).run Tryd.prog w = .ok (.agg zero64) w := by kernel_rfl
theorem zero64_size : zero64.size = 64 := by kernel_rfl
theorem zero64_ne : zero64 ≠ #[] := fun e => by have := zero64_size; rw [e] at this; cases this
theorem zero64_eq : zero64 = (cW (tabW 64 fun _ => 0)).toArray := by unfold zero64; rfl

/-- What is in memory: the words so far in block o, the result's block r. -/
structure WdSt (w : World) (r o : Nat) (f : Nat → W32) (W : World) : Prop where
  row : W.heap[o]? = some (.cells (cW (tabW 64 f)).toArray 94 (0, 0))
  res : W.heap[r]? = some (.cells zero64 94 (0, 0))
  bel : Below w.heap.size w W
theorem WdSt.drawn {w : World} {r o : Nat} {f : Nat → W32} {W W' : World} (h : WdSt w r o f W) (hd : Drawn W W') : WdSt w r o f W' := by
  obtain ⟨n, rfl⟩ := hd
  exact ⟨h.row, h.res, below_drewN h.bel n⟩
theorem WdSt.set {w : World} {r o : Nat} {f : Nat → W32} {W : World} (h : WdSt w r o f W) (h1 : r ≠ o) (h3 : w.heap.size ≤ o) (j : Nat) (x : W32) :
    WdSt w r o (fun i => if i = j then x else f i) (W.setCell ⟨o, j, none⟩ (.int .u32 (wn x))) := by
  have hu := (Upd.refl h.row).setCell (j := j) (.int .u32 (wn x))
  refine ⟨?_, (hu.block r h1).trans h.res, h.bel.trans (hu.below h3)⟩
  rw [← tabW_set, ← cW_set]; exact hu.here
theorem WdSt.congr {w : World} {r o : Nat} {f g : Nat → W32} {W : World} (h : WdSt w r o f W) (e : ∀ i, i < 64 → f i = g i) : WdSt w r o g W :=
  ⟨by rw [← tabW_congr e]; exact h.row, h.res, h.bel⟩
theorem WdSt.cell {w : World} {r o : Nat} {f : Nat → W32} {W : World} (h : WdSt w r o f W) {j : Nat} (hj : j < 64) : W.cell? ⟨o, j, none⟩ = some (.int .u32 (wn (f j))) := by
  rw [cell_of_block h.row, cW_at hj]
theorem WdSt.free {w : World} {r o : Nat} {f : Nat → W32} {W : World} (h : WdSt w r o f W) (j : Nat) : W.frozen? ⟨o, j, none⟩ = false := free_of_block h.row _

/-- The first t words lie in block o. -/
def WordsIn (o t : Nat) (bs : List UInt8) (W : World) : Prop := ∀ i, i < t → W.cell? ⟨o, i, none⟩ = some (.int .u32 (wn (wAt bs i)))
/-- The words: t are done, of the next one j bytes. -/
def lowTo (b : List UInt8) (t j i : Nat) : W32 := if i < t then wordAt b i else if i = t then pwAt b t j else 0
def highTo (b : List UInt8) (t i : Nat) : W32 := if i < t then wAt b i else 0

theorem lowTo_start (b : List UInt8) : tabW 64 (lowTo b 0 0) = tabW 64 fun _ => 0 := by
  refine tabW_congr fun i _ => ?_
  unfold lowTo
  rw [if_neg (Nat.not_lt_zero i)]
  split <;> rfl
theorem lowTo_here (b : List UInt8) (t j : Nat) : lowTo b t j t = pwAt b t j := by
  unfold lowTo; rw [if_neg (Nat.lt_irrefl t), if_pos rfl]
theorem lowTo_set (b : List UInt8) (t j j' : Nat) : ∀ i, i < 64 → (if i = t then pwAt b t j' else lowTo b t j i) = lowTo b t j' i := by
  intro i _
  unfold lowTo
  by_cases h : i = t
  · subst h; rw [if_pos rfl, if_neg (Nat.lt_irrefl i), if_pos rfl]
  · rw [if_neg h, if_neg h, if_neg h]
theorem lowTo_next (b : List UInt8) (t : Nat) : ∀ i, i < 64 → lowTo b t 4 i = lowTo b (t + 1) 0 i := by
  intro i _
  unfold lowTo
  by_cases h : i < t
  · rw [if_pos h, if_pos (by omega)]
  · rw [if_neg h]
    by_cases h2 : i = t
    · subst h2; rw [if_pos rfl, if_pos (by omega), pwAt_four]
    · rw [if_neg h2, if_neg (by omega)]
      split <;> rfl
theorem lowTo_high (b : List UInt8) : ∀ i, i < 64 → lowTo b 16 0 i = highTo b 16 i := by
  intro i _
  unfold lowTo highTo
  by_cases h : i < 16
  · rw [if_pos h, if_pos h, wAt_low b i h]
  · rw [if_neg h, if_neg h]; split <;> rfl
theorem highTo_next (b : List UInt8) (t : Nat) : ∀ i, i < 64 → (if i = t then wAt b t else highTo b t i) = highTo b (t + 1) i := by
  intro i _
  unfold highTo
  by_cases h : i = t
  · subst h; rw [if_pos rfl, if_pos (by omega)]
  · rw [if_neg h]
    by_cases h2 : i < t
    · rw [if_pos h2, if_pos (by omega)]
    · rw [if_neg h2, if_neg (by omega)]
theorem highTo_full (b : List UInt8) : tabW 64 (highTo b 64) = tabW 64 (wAt b) := tabW_congr fun i hi => by unfold highTo; rw [if_pos hi]

set_option maxRecDepth 10000 in
set_option maxHeartbeats 4000000 in
theorem spread_any (a : Option Addr) (ca : Nat) (bs : List UInt8) (w : World) (ha : ArgB w a ca bs) (h64 : bs.length = 64) :
    Calls Tryd.prog 81 #[.slice a 64 ca] w fun e w' => e = .returned (.agg (cW (tabW 64 (wAt bs))).toArray) ∧ Below w.heap.size w w' := by
  have zr := zero64_run
  have zn := zero64_ne
  have hca := ha.len
  rw [h64] at hca
  obtain ⟨b0, off, rfl, _⟩ := ha.row 0 (by omega)
  have hcell : ∀ W, Below w.heap.size w W → ∀ i, i < 64 → W.cell? ⟨b0, off + i, none⟩ = some (.int .u8 ((cf bs i).toNat : Int)) := by
    intro W hW i hi
    obtain ⟨b', off', e, hc⟩ := (ha.below hW).row i (by omega)
    cases e
    exact hc
  replace hcell := Lib.hid hcell
  have ha0 := Lib.hid ha
  replace h64 := Lib.hid h64
  obtain ⟨W0, hW0⟩ : ∃ W0, W0 = ((w.alloc (.cells zero64 94)).alloc (.cells zero64 94)) := ⟨_, rfl⟩
  have q0 : W0.heap[w.heap.size]? = some (.cells zero64 94 (0, 0)) := by
    rw [hW0, Below.heap_alloc _ _ _ (by simp)]; exact heap_alloc_new w _
  have q1 : W0.heap[w.heap.size + 1]? = some (.cells zero64 94 (0, 0)) := by
    have := heap_alloc_new (w.alloc (.cells zero64 94)) (.cells zero64 94)
    rw [← hW0] at this; simpa using this
  have q3 : Below w.heap.size w W0 := by rw [hW0]; exact ((Below.refl w.heap.size w).alloc (Nat.le_refl _) _).alloc (by simp) _
  replace hW0 := Lib.hid hW0
  replace q0 := Lib.hid q0
  replace q1 := Lib.hid q1
  replace q3 := Lib.hid q3
  clear ha
  go_enter Tryd.func81, Tryd.ntmps81
  go_wp2_with fail
  rw [← hW0.out]
  obtain ⟨o0, ho0⟩ : ∃ o0, o0 = w.heap.size + 1 := ⟨_, rfl⟩
  obtain ⟨r0, hr0⟩ : ∃ r0, r0 = w.heap.size := ⟨_, rfl⟩
  have hro : r0 ≠ o0 := by omega
  have hob : w.heap.size ≤ o0 := by omega
  rw [← ho0] at q1 ⊢
  rw [← hr0] at q0 ⊢
  have hrb := Lib.hid (show w.heap.size ≤ r0 from by omega)
  have hI := Lib.hid (show WdSt w r0 o0 (lowTo bs 0 0) W0 from ⟨by rw [lowTo_start, ← zero64_eq]; exact q1.out, q0.out, q3.out⟩)
  replace hro := Lib.hid hro
  replace hob := Lib.hid hob
  clear ho0 hr0 q0 q1 q3 zr zn hW0
  go_loopw [4, 6, 8] (fun _ _ j wr => ∃ t : Nat, t ≤ 16 ∧ j = .int .i64 t ∧ WdSt w r0 o0 (lowTo bs t 0) wr)
    (fun _ _ j _ => 16 - (intOf j).toNat)
  case atStart => exact ⟨0, Nat.zero_le _, rfl, hI.out⟩
  case round =>
    clear hI
    obtain ⟨t, ht, rfl, hI⟩ := hrel
    by_cases hlt : t < 16
    · have k1 := IntWalk.i64_in (4 * (t : Int)) (by omega)
      have k2 := IntWalk.i64_in (4 * (t : Int) + 4) (by omega)
      have k3 : (0 : Int) ≤ 4 * (t : Int) := by omega
      have k4 : 4 * (t : Int) + 4 ≤ (ca : Int) := by omega
      have k5 : (4 * (t : Int)).toNat = 4 * t := by omega
      have k6 : (4 * (t : Int) + 4).toNat - 4 * t = 4 := by omega
      have k7 : 4 * (t : Int) ≤ 4 * (t : Int) + 4 := by omega
      have hnx := Lib.hid (lowTo_next bs t)
      replace hI := Lib.hid hI
      have hdt : decide ((t : Int) < 16) = true := decide_eq_true (by omega)
      go_wp2_with fail
      try rw [hdt]
      go_loopw [6, 19] (fun _ j wq => ∃ m : Nat, m ≤ 4 ∧ j = .int .i64 m ∧ WdSt w r0 o0 (lowTo bs t m) wq)
        (fun _ j _ => 4 - (intOf j).toNat)
      case atStart => exact ⟨0, Nat.zero_le _, rfl, hI.out⟩
      case round =>
        clear hI
        obtain ⟨m, hm, rfl, hI⟩ := hrel
        by_cases hmm : m < 4
        · have cx := hcell.out wr hI.bel (4 * t + m) (by omega)
          rw [← Nat.add_assoc] at cx
          have c1 := hI.cell (j := t) (by omega)
          rw [lowTo_here] at c1
          have f1 := hI.free t
          have hor := or_byte' (pwAt bs t m) (cf bs (4 * t + m))
          have hnx2 := Lib.hid (WdSt.congr (hI.set hro.out hob.out t (pwAt bs t (m + 1))) (lowTo_set bs t m (m + 1)))
          rw [show (pwAt bs t m <<< 8) ||| (cf bs (4 * t + m)).toUInt32 = pwAt bs t (m + 1) from rfl] at hor
          generalize pwAt bs t (m + 1) = y at *
          generalize pwAt bs t m = x at *
          generalize cf bs (4 * t + m) = c at *
          replace hI := Lib.hid hI
          go_wp2_with fail
          go_roundw
          case rel => exact ⟨m + 1, by omega, by go_num, hnx2.out⟩
          case measure => simp [intOf]; omega
        · obtain rfl : m = 4 := by omega
          have hI2 := Lib.hid (hI.congr hnx.out)
          go_wp2_with fail
          go_roundw
          case rel => exact ⟨t + 1, by omega, by go_num, hI2.out⟩
          case measure => simp [intOf]; omega
    · obtain rfl : t = 16 := by omega
      have hI := Lib.hid (hI.congr (lowTo_high bs))
      go_wp2_with fail
      rw [show ((16 : Nat) : Int) = 16 from rfl]
      go_loopw [7] (fun tt wq => ∃ t : Nat, 16 ≤ t ∧ t ≤ 64 ∧ tt = .int .i64 t ∧ WdSt w r0 o0 (highTo bs t) wq)
        (fun tt _ => 64 - (intOf tt).toNat)
      case atStart => exact ⟨16, Nat.le_refl _, by omega, rfl, hI.out⟩
      case round =>
        clear hI
        obtain ⟨t, ht1, ht2, rfl, hI⟩ := hrel
        by_cases hlt : t < 64
        · have k1 := IntWalk.i64_in ((t : Int) - 2) (by omega)
          have k2 := IntWalk.i64_in ((t : Int) - 7) (by omega)
          have k3 := IntWalk.i64_in ((t : Int) - 15) (by omega)
          have k4 := IntWalk.i64_in ((t : Int) - 16) (by omega)
          have n1 : ((t : Int) - 2).toNat = t - 2 := by omega
          have n2 : ((t : Int) - 7).toNat = t - 7 := by omega
          have n3 : ((t : Int) - 15).toNat = t - 15 := by omega
          have n4 : ((t : Int) - 16).toNat = t - 16 := by omega
          have l1 : (0 : Int) ≤ (t : Int) - 2 := by omega
          have l2 : (0 : Int) ≤ (t : Int) - 7 := by omega
          have l3 : (0 : Int) ≤ (t : Int) - 15 := by omega
          have l4 : (0 : Int) ≤ (t : Int) - 16 := by omega
          have m1 : (2 : Int) ≤ (t : Int) := by omega
          have m2 : (7 : Int) ≤ (t : Int) := by omega
          have m3 : (15 : Int) ≤ (t : Int) := by omega
          have m4 : (16 : Int) ≤ (t : Int) := by omega
          have u1 : (t : Int) - 2 < 64 := by omega
          have u2 : (t : Int) - 7 < 64 := by omega
          have u3 : (t : Int) - 15 < 64 := by omega
          have u4 : (t : Int) - 16 < 64 := by omega
          have ca1 : ∀ W, WordsIn o0 t bs W → W.cell? ⟨o0, t - 2, none⟩ = some (.int .u32 (wn (wAt bs (t - 2)))) := fun W h => h _ (by omega)
          have cb1 : ∀ W, WordsIn o0 t bs W → W.cell? ⟨o0, t - 7, none⟩ = some (.int .u32 (wn (wAt bs (t - 7)))) := fun W h => h _ (by omega)
          have cc1 : ∀ W, WordsIn o0 t bs W → W.cell? ⟨o0, t - 15, none⟩ = some (.int .u32 (wn (wAt bs (t - 15)))) := fun W h => h _ (by omega)
          have cd1 : ∀ W, WordsIn o0 t bs W → W.cell? ⟨o0, t - 16, none⟩ = some (.int .u32 (wn (wAt bs (t - 16)))) := fun W h => h _ (by omega)
          have hSa : ∀ W, WdSt w r0 o0 (highTo bs t) W → WordsIn o0 t bs W := fun W h => by
            intro i hi
            rw [h.cell (by omega)]; unfold highTo; rw [if_pos hi]
          have hSb : ∀ W, WdSt w r0 o0 (highTo bs (t + 1)) W → WordsIn o0 t bs W := fun W h => by
            intro i hi
            rw [h.cell (by omega)]; unfold highTo; rw [if_pos (by omega)]
          have hwa := wAt_high bs t ht1
          have hfin := highTo_next bs t
          rw [hwa] at hfin
          replace hfin := Lib.hid hfin
          clear hwa
          generalize wAt bs (t - 2) = xa at *
          generalize wAt bs (t - 7) = xb at *
          generalize wAt bs (t - 15) = xc at *
          generalize wAt bs (t - 16) = xd at *
          have a1 := add32 (small1 xa) xb
          have a2 := add32 (small1 xa + xb) (small0 xc)
          have a3 := add32 (small1 xa + xb + small0 xc) xd
          have hI := Lib.hid hI
          have hS0 := hSa _ (hI.out.drawn ⟨1, rfl⟩)
          go_wp2_with fail
          refine wp_region_held_drew (S := WordsIn o0 t bs) (by kernel_rfl) hS0 (fun hOn => ?_)
          replace hI := Lib.hid (hI.out.drawn (show Drawn wr wr.drew from ⟨1, rfl⟩))
          generalize wr.drew = wr at hOn hI ⊢
          refine wpAnyH_take (i := 0) (v := ?_) (by simp only [List.getElem?_toArray, List.getElem?_cons_zero]; rfl) (by kernel_rfl) (by kernel_rfl) (by kernel_rfl) (by exact fun _ _ _ h => h) (Or.inl ⟨by rfl, ?_⟩) hOn ?_
          rotate_left
          focus (intro W hSW; go_simp; try with_reducible rfl)
          try simp only [Act.put, List.setIfInBounds_toArray, List.set_cons_zero, List.set_cons_succ]
          refine wpAnyH_take (i := 1) (v := ?_) (by simp only [List.getElem?_toArray, List.getElem?_cons_succ, List.getElem?_cons_zero]; rfl) (by kernel_rfl) (by kernel_rfl) (by kernel_rfl) (by exact fun _ _ _ h => h) (Or.inl ⟨by rfl, ?_⟩) hOn ?_
          rotate_left
          focus (intro W hSW; go_simp; try with_reducible rfl)
          try simp only [Act.put, List.setIfInBounds_toArray, List.set_cons_zero, List.set_cons_succ]
          refine wpAnyH_take (i := 2) (v := ?_) (by simp only [List.getElem?_toArray, List.getElem?_cons_succ, List.getElem?_cons_zero]; rfl) (by kernel_rfl) (by kernel_rfl) (by kernel_rfl) (by exact fun _ _ _ h => h) (Or.inl ⟨by rfl, ?_⟩) hOn ?_
          rotate_left
          focus (intro W hSW; go_simp; try with_reducible rfl)
          try simp only [Act.put, List.setIfInBounds_toArray, List.set_cons_zero, List.set_cons_succ]
          refine wpAnyH_take (i := 3) (v := ?_) (by simp only [List.getElem?_toArray, List.getElem?_cons_succ, List.getElem?_cons_zero]; rfl) (by kernel_rfl) (by kernel_rfl) (by kernel_rfl) (by exact fun _ _ _ h => h) (Or.inl ⟨by rfl, ?_⟩) hOn ?_
          rotate_left
          focus (intro W hSW; go_simp; try with_reducible rfl)
          try simp only [Act.put, List.setIfInBounds_toArray, List.set_cons_zero, List.set_cons_succ]
          refine wpAnyH_take (i := 4) (v := ?_) (by simp only [List.getElem?_toArray, List.getElem?_cons_succ, List.getElem?_cons_zero]; rfl) (by kernel_rfl) (by kernel_rfl) (by kernel_rfl) (by exact fun _ _ _ h => h) (Or.inl ⟨by rfl, ?_⟩) hOn ?_
          rotate_left
          focus (intro W hSW; go_simp; try with_reducible rfl)
          try simp only [Act.put, List.setIfInBounds_toArray, List.set_cons_zero, List.set_cons_succ]
          refine wpAnyH_take (i := 6) (v := ?_) (by simp only [List.getElem?_toArray, List.getElem?_cons_succ, List.getElem?_cons_zero]; rfl) (by kernel_rfl) (by kernel_rfl) (by kernel_rfl) (by exact fun _ _ _ h => h) (Or.inl ⟨by rfl, ?_⟩) hOn ?_
          rotate_left
          focus (intro W hSW; go_simp; try with_reducible rfl)
          try simp only [Act.put, List.setIfInBounds_toArray, List.set_cons_zero, List.set_cons_succ]
          refine wpAnyH_take (i := 7) (v := ?_) (by simp only [List.getElem?_toArray, List.getElem?_cons_succ, List.getElem?_cons_zero]; rfl) (by kernel_rfl) (by kernel_rfl) (by kernel_rfl) (by exact fun _ _ _ h => h) (Or.inl ⟨by rfl, ?_⟩) hOn ?_
          rotate_left
          focus (intro W hSW; go_simp; try with_reducible rfl)
          try simp only [Act.put, List.setIfInBounds_toArray, List.set_cons_zero, List.set_cons_succ]
          refine wpAnyH_take (i := 8) (v := ?_) (by simp only [List.getElem?_toArray, List.getElem?_cons_succ, List.getElem?_cons_zero]; rfl) (by kernel_rfl) (by kernel_rfl) (by kernel_rfl) (by exact fun _ _ _ h => h) (Or.inl ⟨by rfl, ?_⟩) hOn ?_
          rotate_left
          focus (intro W hSW; go_simp; try with_reducible rfl)
          try simp only [Act.put, List.setIfInBounds_toArray, List.set_cons_zero, List.set_cons_succ]
          refine wpAnyH_take (i := 9) (v := ?_) (by simp only [List.getElem?_toArray, List.getElem?_cons_succ, List.getElem?_cons_zero]; rfl) (by kernel_rfl) (by kernel_rfl) (by kernel_rfl) (by exact fun _ _ _ h => h) (Or.inl ⟨by rfl, ?_⟩) hOn ?_
          rotate_left
          focus (intro W hSW; go_simp; try with_reducible rfl)
          try simp only [Act.put, List.setIfInBounds_toArray, List.set_cons_zero, List.set_cons_succ]
          refine wpAnyH_take (i := 11) (v := ?_) (by simp only [List.getElem?_toArray, List.getElem?_cons_succ, List.getElem?_cons_zero]; rfl) (by kernel_rfl) (by kernel_rfl) (by kernel_rfl) (by exact fun _ _ _ h => h) (Or.inl ⟨by rfl, ?_⟩) hOn ?_
          rotate_left
          focus (intro W hSW; go_simp; try with_reducible rfl)
          try simp only [Act.put, List.setIfInBounds_toArray, List.set_cons_zero, List.set_cons_succ]
          refine wpAnyH_take (i := 12) (v := ?_) (by simp only [List.getElem?_toArray, List.getElem?_cons_succ, List.getElem?_cons_zero]; rfl) (by kernel_rfl) (by kernel_rfl) (by kernel_rfl) (by exact fun _ _ _ h => h) (Or.inl ⟨by rfl, ?_⟩) hOn ?_
          rotate_left
          focus (intro W hSW; go_simp; try with_reducible rfl)
          try simp only [Act.put, List.setIfInBounds_toArray, List.set_cons_zero, List.set_cons_succ]
          refine wpAnyH_take (i := 13) (v := ?_) (by simp only [List.getElem?_toArray, List.getElem?_cons_succ, List.getElem?_cons_zero]; rfl) (by kernel_rfl) (by kernel_rfl) (by kernel_rfl) (by exact fun _ _ _ h => h) (Or.inl ⟨by rfl, ?_⟩) hOn ?_
          rotate_left
          focus (intro W hSW; go_simp; try with_reducible rfl)
          try simp only [Act.put, List.setIfInBounds_toArray, List.set_cons_zero, List.set_cons_succ]
          refine wpAnyH_take (i := 14) (v := ?_) (by simp only [List.getElem?_toArray, List.getElem?_cons_succ, List.getElem?_cons_zero]; rfl) (by kernel_rfl) (by kernel_rfl) (by kernel_rfl) (by exact fun _ _ _ h => h) (Or.inl ⟨by rfl, ?_⟩) hOn ?_
          rotate_left
          focus (intro W hSW; go_simp; try with_reducible rfl)
          try simp only [Act.put, List.setIfInBounds_toArray, List.set_cons_zero, List.set_cons_succ]
          refine wpAnyH_take (i := 17) (v := ?_) (by simp only [List.getElem?_toArray, List.getElem?_cons_succ, List.getElem?_cons_zero]; rfl) (by kernel_rfl) (by kernel_rfl) (by kernel_rfl) (by exact fun _ _ _ h => h) (Or.inl ⟨by rfl, ?_⟩) hOn ?_
          rotate_left
          focus (intro W hSW; go_simp; try with_reducible rfl)
          try simp only [Act.put, List.setIfInBounds_toArray, List.set_cons_zero, List.set_cons_succ]
          refine wpAnyH_take (i := 18) (v := ?_) (by simp only [List.getElem?_toArray, List.getElem?_cons_succ, List.getElem?_cons_zero]; rfl) (by kernel_rfl) (by kernel_rfl) (by kernel_rfl) (by exact fun _ _ _ h => h) (Or.inl ⟨by rfl, ?_⟩) hOn ?_
          rotate_left
          focus (intro W hSW; go_simp; try with_reducible rfl)
          try simp only [Act.put, List.setIfInBounds_toArray, List.set_cons_zero, List.set_cons_succ]
          refine wpAnyH_take (i := 19) (v := ?_) (by simp only [List.getElem?_toArray, List.getElem?_cons_succ, List.getElem?_cons_zero]; rfl) (by kernel_rfl) (by kernel_rfl) (by kernel_rfl) (by exact fun _ _ _ h => h) (Or.inl ⟨by rfl, ?_⟩) hOn ?_
          rotate_left
          focus (intro W hSW; go_simp; try with_reducible rfl)
          try simp only [Act.put, List.setIfInBounds_toArray, List.set_cons_zero, List.set_cons_succ]
          refine wpAnyH_take (i := 20) (v := ?_) (by simp only [List.getElem?_toArray, List.getElem?_cons_succ, List.getElem?_cons_zero]; rfl) (by kernel_rfl) (by kernel_rfl) (by kernel_rfl) (by exact fun _ _ _ h => h) (Or.inl ⟨by rfl, ?_⟩) hOn ?_
          rotate_left
          focus (intro W hSW; go_simp; try with_reducible rfl)
          try simp only [Act.put, List.setIfInBounds_toArray, List.set_cons_zero, List.set_cons_succ]
          refine wpAnyH_ready (rs := [5]) (by kernel_rfl) (by simp) ?_
          refine AllReadyH.cons (by simp only [List.getElem?_toArray, List.getElem?_cons_succ, List.getElem?_cons_zero]; rfl) (fun K hK => ?_) AllReadyH.nil
          go_simp
          with_reducible refine (small1_any xa _).mono ?_
          rintro e w4 ⟨rfl, hd⟩
          replace hI := Lib.hid (hI.out.drawn hd)
          have hS4 := hSa _ hI.out
          clear hd
          go_wp2_with fail
          refine hK.out _ _ hS4 (fun hNext => ?_)
          clear hS4
          clear hK K hOn
          have hOn := hNext
          clear hNext
          try simp only [Act.put, List.setIfInBounds_toArray, List.set_cons_zero, List.set_cons_succ]
          refine wpAnyH_take (i := 10) (v := ?_) (by simp only [List.getElem?_toArray, List.getElem?_cons_succ, List.getElem?_cons_zero]; rfl) (by kernel_rfl) (by kernel_rfl) (by kernel_rfl) (by exact fun _ _ _ h => h) (Or.inl ⟨by rfl, ?_⟩) hOn ?_
          rotate_left
          focus (intro W hSW; go_simp; try with_reducible rfl)
          try simp only [Act.put, List.setIfInBounds_toArray, List.set_cons_zero, List.set_cons_succ]
          refine wpAnyH_ready (rs := [15]) (by kernel_rfl) (by simp) ?_
          refine AllReadyH.cons (by simp only [List.getElem?_toArray, List.getElem?_cons_succ, List.getElem?_cons_zero]; rfl) (fun K hK => ?_) AllReadyH.nil
          go_simp
          with_reducible refine (small0_any xc _).mono ?_
          rintro e w4 ⟨rfl, hd⟩
          replace hI := Lib.hid (hI.out.drawn hd)
          have hS4 := hSa _ hI.out
          clear hd
          go_wp2_with fail
          refine hK.out _ _ hS4 (fun hNext => ?_)
          clear hS4
          clear hK K hOn
          have hOn := hNext
          clear hNext
          try simp only [Act.put, List.setIfInBounds_toArray, List.set_cons_zero, List.set_cons_succ]
          refine wpAnyH_take (i := 16) (v := ?_) (by simp only [List.getElem?_toArray, List.getElem?_cons_succ, List.getElem?_cons_zero]; rfl) (by kernel_rfl) (by kernel_rfl) (by kernel_rfl) (by exact fun _ _ _ h => h) (Or.inl ⟨by rfl, ?_⟩) hOn ?_
          rotate_left
          focus (intro W hSW; go_simp; try with_reducible rfl)
          try simp only [Act.put, List.setIfInBounds_toArray, List.set_cons_zero, List.set_cons_succ]
          refine wpAnyH_take (i := 21) (v := ?_) (by simp only [List.getElem?_toArray, List.getElem?_cons_succ, List.getElem?_cons_zero]; rfl) (by kernel_rfl) (by kernel_rfl) (by kernel_rfl) (by exact fun _ _ _ h => h) (Or.inl ⟨by rfl, ?_⟩) hOn ?_
          rotate_left
          focus (intro W hSW; go_simp; try with_reducible rfl)
          try simp only [Act.put, List.setIfInBounds_toArray, List.set_cons_zero, List.set_cons_succ]
          refine wpAnyH_take (i := 22) (v := ?_) (by simp only [List.getElem?_toArray, List.getElem?_cons_succ, List.getElem?_cons_zero]; rfl) (by kernel_rfl) (by kernel_rfl) (by kernel_rfl) (by exact fun _ _ _ h => h) (Or.inl ⟨by rfl, ?_⟩) hOn ?_
          rotate_left
          focus (intro W hSW; go_simp; try with_reducible rfl)
          try simp only [Act.put, List.setIfInBounds_toArray, List.set_cons_zero, List.set_cons_succ]
          refine wpAnyH_ready (rs := [23]) (by kernel_rfl) (by simp) ?_
          refine AllReadyH.cons (by simp only [List.getElem?_toArray, List.getElem?_cons_succ, List.getElem?_cons_zero]; rfl) (fun K hK => ?_) AllReadyH.nil
          have c1 := hI.out.cell (j := t) (by omega)
          have f1 := hI.out.free t
          go_simp
          have hI6 := Lib.hid (WdSt.congr (hI.out.set hro.out hob.out t (small1 xa + xb + small0 xc + xd)) hfin.out)
          have hS6 := hSb _ hI6.out
          refine hK.out _ _ hS6 (fun hNext => ?_)
          clear hK K hOn
          have hOn := hNext
          clear hNext
          try simp only [Act.put, List.setIfInBounds_toArray, List.set_cons_zero, List.set_cons_succ]
          refine wpAnyH_done (by kernel_rfl) ?_ _
          go_wp2_with fail
          exact ⟨⟨t + 1, by omega, by omega, by go_num, hI6.out⟩, by simp [intOf]; omega⟩
        · obtain rfl : t = 64 := by omega
          have hrw := hI.row
          rw [highTo_full] at hrw
          have hrs := hI.res
          have hbl := Lib.hid hI.bel
          have hu0 : Tryd.prog.underlying 94 = some (.array 64 92) := Tryd.underlying94
          have hone := cW_one (tabW 64 (wAt bs))
          have hsz : (Tryd.prog.info? 94).map (·.size) = some (cW (tabW 64 (wAt bs))).toArray.size := by
            rw [List.size_toArray, cW_length, tabW_length]; kernel_rfl
          have hs2 : zero64.size = (cW (tabW 64 (wAt bs))).toArray.size := by rw [zero64_size, List.size_toArray, cW_length, tabW_length]
          generalize hC : (cW (tabW 64 (wAt bs))).toArray = C at *
          replace hrw := Lib.hid hrw
          replace hrs := Lib.hid hrs
          go_wp2_with (first | with_reducible refine wpList_load_row rfl 94 (.tmp 3) rfl o0 C (.array 64 92) rfl hrw hu0 rfl hsz ?_ | with_reducible refine wpList_store_row rfl 94 (.tmp 2) (.tmp 61) rfl r0 zero64 C rfl rfl hrs hsz hs2 hone ?_)
          intro w8 hU
          go_wp2_with fail
          exact ret_cell_row rfl rfl hu0 rfl hsz hU.out.here ⟨by rw [hC], hbl.out.trans (hU.out.below hrb.out)⟩

end Go.Proofs.YtgkddegaiaeckaaDoor
