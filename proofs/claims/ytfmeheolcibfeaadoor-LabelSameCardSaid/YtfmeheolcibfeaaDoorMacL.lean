/- The walks over mac.Make, (*mac.Key).Of, mac.Of, (*mac.Key).Tag, mac.Same, (*mac.Key).Right. -/
import Derived.Test.YtfmeheolcibfeaaDoorMacK
import Derived.Test.YtfmeheolcibfeaaDoorOnL
namespace Go.Proofs.YtfmeheolcibfeaaDoor
open Go.RowKit

/-- A key, filled up. -/
def kcut (key : List UInt8) : List UInt8 := if 64 < key.length then sha key else key
def kpad (key : List UInt8) : List UInt8 := kcut key ++ List.replicate (64 - (kcut key).length) 0
def ipad (key : List UInt8) : List UInt8 := (kpad key).map (· ^^^ 54)
def opad (key : List UInt8) : List UInt8 := (kpad key).map (· ^^^ 92)
/-- The mac. -/
def hmac (key m : List UInt8) : List UInt8 := sha (opad key ++ sha (ipad key ++ m))
theorem kcut_le (key : List UInt8) : (kcut key).length ≤ 64 := by
  unfold kcut
  split
  · rw [sha_length]; omega
  · omega
theorem kpad_length (key : List UInt8) : (kpad key).length = 64 := by
  have := kcut_le key
  simp [kpad]; omega
theorem ipad_length (key : List UInt8) : (ipad key).length = 64 := by simp [ipad, kpad_length]
theorem opad_length (key : List UInt8) : (opad key).length = 64 := by simp [opad, kpad_length]
theorem hmac_length (key m : List UInt8) : (hmac key m).length = 32 := sha_length _

/-- A key in memory. -/
def KeyAt (w : World) (b : Nat) (key : List UInt8) : Prop := ∃ g1 g2, w.heap[b]? = some (.cells #[.slice (some ⟨g1, 0, none⟩) 64 64, .slice (some ⟨g2, 0, none⟩) 64 64] 81 (0, 0)) ∧ ArgB w (some ⟨g1, 0, none⟩) 64 (ipad key) ∧ ArgB w (some ⟨g2, 0, none⟩) 64 (opad key)
theorem KeyAt.below {w w' : World} {b : Nat} {key : List UInt8} (h : KeyAt w b key) (hb : Below w.heap.size w w') : KeyAt w' b key := by
  obtain ⟨g1, g2, h1, h2, h3⟩ := h
  exact ⟨g1, g2, (hb.block b (block_lt h1)).trans h1, h2.below hb, h3.below hb⟩
theorem keyAt_new {w : World} {g1 g2 : Nat} {key : List UInt8} (h1 : ArgB w (some ⟨g1, 0, none⟩) 64 (ipad key)) (h2 : ArgB w (some ⟨g2, 0, none⟩) 64 (opad key)) : KeyAt (w.alloc (.cells #[.slice (some ⟨g1, 0, none⟩) 64 64, .slice (some ⟨g2, 0, none⟩) 64 64] 81)) w.heap.size key :=
  ⟨g1, g2, heap_alloc_new _ _, h1.below ((Below.refl _ w).alloc (Nat.le_refl _) _), h2.below ((Below.refl _ w).alloc (Nat.le_refl _) _)⟩

@[irreducible] def zpad : Array Value := (cB (tab 64 fun _ => 0)).toArray
theorem zpad_run (w : World) : (zeroValue 78).run Tryd.prog w = .ok (.agg zpad) w := by kernel_rfl
theorem zpad_size : zpad.size = 64 := by kernel_rfl
theorem zpad_ne : zpad ≠ #[] := fun e => by have := zpad_size; rw [e] at this; cases this
theorem zpad_eq : zpad = (cB (tab 64 fun _ => 0)).toArray := by unfold zpad; rfl
theorem rowG {w : World} {g : Nat} {o : Obj} (h : w.heap[g]? = some o) : ∀ W, Grown w W → W.heap[g]? = some o := fun _ hW => (hW.block g (block_lt h)).trans h
theorem splice_pad (key : List UInt8) : splice (cB (tab 64 fun _ => 0)) 0 (cB key) = cB (key ++ List.replicate (64 - key.length) 0) := by
  rw [tab_zero]
  unfold splice
  rw [List.take_zero, List.nil_append, cB_append, Nat.zero_add, cB_length]
  congr 1
  unfold cB
  rw [← List.map_drop, List.drop_replicate]

theorem argBB_one {w : World} {a : Option Addr} {c : Nat} {p : List UInt8} {g : Nat} (h : ArgB w a c p) (hg : w.heap[g]? = some (.cells #[.slice a p.length c] 22 (0, 0))) : ArgBB w (some ⟨g, 0, none⟩) 1 [p] := by
  refine ⟨Nat.le_refl _, by unfold maxLen; omega, (fun e => by cases e), fun i hi => ⟨g, 0, rfl, ?_⟩⟩
  obtain rfl : i = 0 := by simpa using hi
  exact ⟨a, c, by rw [cell_of_block hg]; rfl, h⟩
theorem argBB_two {w : World} {a a' : Option Addr} {c c' : Nat} {p q : List UInt8} {g : Nat} (h : ArgB w a c p) (h' : ArgB w a' c' q) (hg : w.heap[g]? = some (.cells #[.slice a p.length c, .slice a' q.length c'] 22 (0, 0))) : ArgBB w (some ⟨g, 0, none⟩) 2 [p, q] := by
  refine ⟨Nat.le_refl _, by unfold maxLen; omega, (fun e => by cases e), fun i hi => ⟨g, 0, rfl, ?_⟩⟩
  have hi2 : i < 2 := by simpa using hi
  match i, hi2 with
  | 0, _ => exact ⟨a, c, by rw [cell_of_block hg]; rfl, h⟩
  | 1, _ => exact ⟨a', c', by rw [cell_of_block hg]; rfl, h'⟩

set_option maxRecDepth 10000 in
set_option maxHeartbeats 1000000 in
theorem macMake_any (a : Option Addr) (cap : Nat) (key : List UInt8) (w : World) (h : ArgB w a cap key) (hl : key.length ≤ 10000) (hK : ShaK w) (hF : ShaF w) :
    Calls Tryd.prog 31 #[.slice a key.length cap] w fun e w' => ∃ b, e = .returned (.pointer (some ⟨b, 0, none⟩)) ∧ KeyAt w' b key ∧ Below w.heap.size w w' := by
  have zr := zpad_run
  have zn := zpad_ne
  have zr2 := zero32_run
  have zn2 := zero32_ne
  have huA : Tryd.prog.underlying 78 = some (.array 64 5) := Tryd.underlying78
  have hszb : (Tryd.prog.info? 5).map (·.size) = some 1 := by kernel_rfl
  have hbA : Below w.heap.size w (w.alloc (.cells zpad 78)) := (Below.refl _ w).alloc (Nat.le_refl _) _
  have hpA : (w.alloc (.cells zpad 78)).heap[w.heap.size]? = some (.cells (cB (tab 64 fun _ => 0)).toArray 78 (0, 0)) := by rw [← zpad_eq]; exact heap_alloc_new w _
  have hkey := h.below hbA
  replace hkey := Lib.hid hkey
  replace hbA := Lib.hid hbA
  replace hpA := Lib.hid hpA
  by_cases hlong : 64 < key.length
  · have hlk : (64 : Int) < key.length := by omega
    have hcut := Lib.hid (show kpad key = sha key ++ List.replicate (64 - (sha key).length) 0 from by unfold kpad kcut; rw [if_pos hlong])
    have hmin : (cB (sha key)).length = Nat.min 32 64 := by rw [cB_length, sha_length]; rfl
    have hfit : 0 + (cB (sha key)).length ≤ (cB (tab 64 fun _ => 0)).length := by rw [cB_length, cB_length, tab_length, sha_length]; omega
    have h32 := sha_length key
    replace hmin := Lib.hid hmin
    replace hfit := Lib.hid hfit
    have hb0 : Below w.heap.size w ((w.alloc (.cells zpad 78)).alloc (.cells #[.slice a key.length cap] 22)) := hbA.out.alloc (by simp) _
    have hpB := (Below.heap_alloc (w.alloc (.cells zpad 78)) (.cells #[.slice a key.length cap] 22) w.heap.size (by simp)).trans hpA.out
    have hsh := shaOf_any (some ⟨w.heap.size + 1, 0, none⟩) 1 [key] ((w.alloc (.cells zpad 78)).alloc (.cells #[.slice a key.length cap] 22))
      (argBB_one (h.below hb0) (by have := heap_alloc_new (w.alloc (.cells zpad 78)) (.cells #[.slice a key.length cap] 22); simpa using this)) (by simp; omega) (by simp) (hK.below hb0) (hF.below hb0)
    rw [show [key].flatten = key from by simp, show [key].length = 1 from rfl] at hsh
    have hszD : (Tryd.prog.info? 49).map (·.size) = some (cB (sha key)).toArray.size := by rw [List.size_toArray, cB_length, sha_length]; kernel_rfl
    have hs32 : zero32.size = (cB (sha key)).toArray.size := by rw [zero32_size, List.size_toArray, cB_length, sha_length]
    have hone : (cB (sha key)).toArray.all (·.oneCell') = true := by
      rw [List.all_toArray, List.all_eq_true]
      exact cB_one _
    replace hsh := Lib.hid hsh
    replace hpB := Lib.hid hpB
    replace hb0 := Lib.hid hb0
    clear hK hF
    go_enter Tryd.func31, Tryd.ntmps31
    go_wp2_with fail
    with_reducible refine hsh.out.mono ?_
    rintro e w1 ⟨rfl, hb1⟩
    have hbw : Below w.heap.size w w1 := hb0.out.trans (hb1.mono hb0.out.size)
    have hpD := (hb1.block _ (block_lt hpB.out)).trans hpB.out
    replace hb1 := Lib.hid hb1
    obtain ⟨D, hD⟩ : ∃ D, D = (cB (sha key)).toArray := ⟨_, rfl⟩
    rw [← hD] at hszD hs32 hone ⊢
    have hbW : Below w.heap.size w (w1.alloc (.cells D 49)) := hbw.alloc hbw.size _
    have hpW := (Below.heap_alloc w1 (.cells D 49) w.heap.size (block_lt hpD)).trans hpD
    have hsr : ArgB (w1.alloc (.cells D 49)) (some ⟨w1.heap.size, 0, none⟩) 32 (sha key) := argB_block (by rw [← hD]; exact heap_alloc_new w1 _) (by omega) (by omega)
    replace hsr := Lib.hid hsr
    replace hbW := Lib.hid hbW
    replace hpW := Lib.hid hpW
    replace hD := Lib.hid hD
    clear hpD hbw
    go_wp2_with (first | with_reducible refine wpList_store_new rfl 49 (.tmp 4) (.tmp 10) rfl zero32 D rfl rfl hszD hs32 hone ?_ | with_reducible refine wpList_copy_splice rfl (.tmp 12) (.tmp 13) 22 22 rfl 5 Tryd.underlying22 hszb _ _ _ _ _ _ rfl rfl w.heap.size 0 (cB (tab 64 fun _ => 0)) 78 hpW.out (cB (sha key)) hmin.out ?_ hfit.out (cB_one (sha key)) w.heap.size w hbW.out (Nat.le_refl _) ?_)
    · intro hpos
      intro j v hj
      rw [hD.out]
      simpa using hj
    · intro w2 hrow2 hb2
      rw [splice_pad (sha key), ← hcut.out] at hrow2
      replace hb2 := Lib.hid hb2
      have rlA := rowG hrow2.out
      have hzA : (Tryd.prog.info? 78).map (·.size) = some (cB (kpad key)).toArray.size := by rw [List.size_toArray, cB_length, kpad_length]; kernel_rfl
      have hpt := fun y z w (hz : z = ((y : UInt8).toNat : Int)) => padTurned_any (kpad key) y z w hz (kpad_length key)
      replace hpt := Lib.hid hpt
      generalize (cB (kpad key)).toArray = C at *
      go_wp2_with fail
      refine wp_region_on (by kernel_rfl) (fun hOn => ?_)
      refine wpAnyH_take (i := 0) (v := Value.agg _) (by simp only [List.getElem?_toArray, List.getElem?_cons_zero]; rfl) (by kernel_rfl) (by kernel_rfl) (by kernel_rfl) (by exact fun _ _ _ h => h) (Or.inl ⟨by rfl, fun W hSW => yields_load_row _ _ rfl _ _ _ rfl (rlA W hSW) huA rfl hzA⟩) hOn ?_
      try simp only [Act.put, List.setIfInBounds_toArray, List.set_cons_zero, List.set_cons_succ]
      refine wpAnyH_take (i := 2) (v := Value.agg _) (by simp only [List.getElem?_toArray, List.getElem?_cons_succ, List.getElem?_cons_zero]; rfl) (by kernel_rfl) (by kernel_rfl) (by kernel_rfl) (by exact fun _ _ _ h => h) (Or.inl ⟨by rfl, fun W hSW => yields_load_row _ _ rfl _ _ _ rfl (rlA W hSW) huA rfl hzA⟩) hOn ?_
      try simp only [Act.put, List.setIfInBounds_toArray, List.set_cons_zero, List.set_cons_succ]
      refine wpAnyH_ready (rs := [1]) (by kernel_rfl) (by simp) ?_
      refine AllReadyH.cons (by simp only [List.getElem?_toArray, List.getElem?_cons_succ, List.getElem?_cons_zero]; rfl) (fun K hK => ?_) AllReadyH.nil
      go_simp
      (with_reducible refine (hpt.out 54 54 _ rfl).mono ?_)
      rintro e w3 ⟨rfl, hr3, hnew⟩
      have hw := Lib.hid (Below.trans hOn (hnew.mono hOn.size))
      replace hb2 := Lib.hid (hb2.out.trans (hw.out.mono hb2.out.size))
      replace hrow2 := Lib.hid (rowG hrow2.out _ hw.out)
      have rlA := rowG hrow2.out
      replace hr3 := Lib.hid hr3
      clear hw
      go_wp2_with fail
      refine hK.out _ _ (Grown.trans hOn hnew) (fun hNext => ?_)
      clear hK K hOn
      refine wpAnyH_onward hNext (fun hOn => ?_)
      clear hNext hnew
      try simp only [Act.put, List.setIfInBounds_toArray, List.set_cons_zero, List.set_cons_succ]
      refine wpAnyH_ready (rs := [3]) (by kernel_rfl) (by simp) ?_
      refine AllReadyH.cons (by simp only [List.getElem?_toArray, List.getElem?_cons_succ, List.getElem?_cons_zero]; rfl) (fun K hK => ?_) AllReadyH.nil
      go_simp
      (with_reducible refine (hpt.out 92 92 _ rfl).mono ?_)
      rintro e w4 ⟨rfl, hr4, hnew⟩
      have hw := Lib.hid (Below.trans hOn (hnew.mono hOn.size))
      replace hb2 := Lib.hid (hb2.out.trans (hw.out.mono hb2.out.size))
      replace hr3 := Lib.hid (hr3.out.below hw.out)
      replace hr4 := Lib.hid hr4
      clear hw
      go_wp2_with fail
      refine hK.out _ _ (Grown.trans hOn hnew) (fun hNext => ?_)
      clear hK K hOn
      refine wpAnyH_onward hNext (fun hOn => ?_)
      clear hNext hnew
      try simp only [Act.put, List.setIfInBounds_toArray, List.set_cons_zero, List.set_cons_succ]
      refine wpAnyH_take (i := 4) (v := ?_) (by simp only [List.getElem?_toArray, List.getElem?_cons_succ, List.getElem?_cons_zero]; rfl) (by kernel_rfl) (by kernel_rfl) (by kernel_rfl) (by exact fun _ _ _ h => h) (Or.inl ⟨by rfl, ?_⟩) hOn ?_
      rotate_left
      focus (intro W hSW; go_simp; try with_reducible rfl)
      try simp only [Act.put, List.setIfInBounds_toArray, List.set_cons_zero, List.set_cons_succ]
      refine wpAnyH_ready (rs := [5]) (by kernel_rfl) (by simp) ?_
      refine AllReadyH.cons (by simp only [List.getElem?_toArray, List.getElem?_cons_succ, List.getElem?_cons_zero]; rfl) (fun K hK => ?_) AllReadyH.nil
      go_simp
      try go_wp2_with fail
      refine hK.out _ _ (by first | exact Grown.alloc hOn _ | exact Grown.alloc (Grown.refl _) _) (fun hNext => ?_)
      clear hK K hOn
      have hOn := hNext
      clear hNext
      try simp only [Act.put, List.setIfInBounds_toArray, List.set_cons_zero, List.set_cons_succ]
      refine wpAnyH_take (i := 6) (v := ?_) (by simp only [List.getElem?_toArray, List.getElem?_cons_succ, List.getElem?_cons_zero]; rfl) (by kernel_rfl) (by kernel_rfl) (by kernel_rfl) (by exact fun _ _ _ h => h) (Or.inl ⟨by rfl, ?_⟩) hOn ?_
      rotate_left
      focus (intro W hSW; go_simp; try with_reducible rfl)
      try simp only [Act.put, List.setIfInBounds_toArray, List.set_cons_zero, List.set_cons_succ]
      refine wpAnyH_done (by kernel_rfl) ?_ _
      go_wp2_with fail
      go_ret
      exact ⟨_, rfl, keyAt_new hr3.out hr4.out, hb2.out.alloc hb2.out.size _⟩
  · have hlk : ¬ (64 : Int) < key.length := by omega
    have hcut := Lib.hid (show kpad key = key ++ List.replicate (64 - key.length) 0 from by unfold kpad kcut; rw [if_neg hlong])
    have hmin : (cB key).length = Nat.min key.length 64 := by rw [cB_length]; show _ = min _ _; omega
    have hfit : 0 + (cB key).length ≤ (cB (tab 64 fun _ => 0)).length := by rw [cB_length, cB_length, tab_length]; omega
    replace hmin := Lib.hid hmin
    replace hfit := Lib.hid hfit
    go_enter Tryd.func31, Tryd.ntmps31
    go_wp2_with (with_reducible refine wpList_copy_splice rfl (.tmp 12) (.tmp 13) 22 22 rfl 5 Tryd.underlying22 hszb _ _ _ _ _ _ rfl rfl w.heap.size 0 (cB (tab 64 fun _ => 0)) 78 hpA.out (cB key) hmin.out ?_ hfit.out (cB_one key) w.heap.size w hbA.out (Nat.le_refl _) ?_)
    · intro hpos
      first | refine ⟨rfl, ?_⟩ | skip
      obtain ⟨b, off, rfl, _⟩ := hkey.out.row 0 (by rw [cB_length] at hpos; exact hpos)
      refine ⟨_, rfl, getElem_add fun i hi => ?_⟩
      obtain ⟨b', off', e, hc⟩ := (At.ofB hkey.out.row) i hi
      cases e
      exact hc
    · intro w2 hrow2 hb2
      rw [splice_pad key, ← hcut.out] at hrow2
      replace hb2 := Lib.hid hb2
      have rlA := rowG hrow2.out
      have hzA : (Tryd.prog.info? 78).map (·.size) = some (cB (kpad key)).toArray.size := by rw [List.size_toArray, cB_length, kpad_length]; kernel_rfl
      have hpt := fun y z w (hz : z = ((y : UInt8).toNat : Int)) => padTurned_any (kpad key) y z w hz (kpad_length key)
      replace hpt := Lib.hid hpt
      generalize (cB (kpad key)).toArray = C at *
      go_wp2_with fail
      refine wp_region_on (by kernel_rfl) (fun hOn => ?_)
      refine wpAnyH_take (i := 0) (v := Value.agg _) (by simp only [List.getElem?_toArray, List.getElem?_cons_zero]; rfl) (by kernel_rfl) (by kernel_rfl) (by kernel_rfl) (by exact fun _ _ _ h => h) (Or.inl ⟨by rfl, fun W hSW => yields_load_row _ _ rfl _ _ _ rfl (rlA W hSW) huA rfl hzA⟩) hOn ?_
      try simp only [Act.put, List.setIfInBounds_toArray, List.set_cons_zero, List.set_cons_succ]
      refine wpAnyH_take (i := 2) (v := Value.agg _) (by simp only [List.getElem?_toArray, List.getElem?_cons_succ, List.getElem?_cons_zero]; rfl) (by kernel_rfl) (by kernel_rfl) (by kernel_rfl) (by exact fun _ _ _ h => h) (Or.inl ⟨by rfl, fun W hSW => yields_load_row _ _ rfl _ _ _ rfl (rlA W hSW) huA rfl hzA⟩) hOn ?_
      try simp only [Act.put, List.setIfInBounds_toArray, List.set_cons_zero, List.set_cons_succ]
      refine wpAnyH_ready (rs := [1]) (by kernel_rfl) (by simp) ?_
      refine AllReadyH.cons (by simp only [List.getElem?_toArray, List.getElem?_cons_succ, List.getElem?_cons_zero]; rfl) (fun K hK => ?_) AllReadyH.nil
      go_simp
      (with_reducible refine (hpt.out 54 54 _ rfl).mono ?_)
      rintro e w3 ⟨rfl, hr3, hnew⟩
      have hw := Lib.hid (Below.trans hOn (hnew.mono hOn.size))
      replace hb2 := Lib.hid (hb2.out.trans (hw.out.mono hb2.out.size))
      replace hrow2 := Lib.hid (rowG hrow2.out _ hw.out)
      have rlA := rowG hrow2.out
      replace hr3 := Lib.hid hr3
      clear hw
      go_wp2_with fail
      refine hK.out _ _ (Grown.trans hOn hnew) (fun hNext => ?_)
      clear hK K hOn
      refine wpAnyH_onward hNext (fun hOn => ?_)
      clear hNext hnew
      try simp only [Act.put, List.setIfInBounds_toArray, List.set_cons_zero, List.set_cons_succ]
      refine wpAnyH_ready (rs := [3]) (by kernel_rfl) (by simp) ?_
      refine AllReadyH.cons (by simp only [List.getElem?_toArray, List.getElem?_cons_succ, List.getElem?_cons_zero]; rfl) (fun K hK => ?_) AllReadyH.nil
      go_simp
      (with_reducible refine (hpt.out 92 92 _ rfl).mono ?_)
      rintro e w4 ⟨rfl, hr4, hnew⟩
      have hw := Lib.hid (Below.trans hOn (hnew.mono hOn.size))
      replace hb2 := Lib.hid (hb2.out.trans (hw.out.mono hb2.out.size))
      replace hr3 := Lib.hid (hr3.out.below hw.out)
      replace hr4 := Lib.hid hr4
      clear hw
      go_wp2_with fail
      refine hK.out _ _ (Grown.trans hOn hnew) (fun hNext => ?_)
      clear hK K hOn
      refine wpAnyH_onward hNext (fun hOn => ?_)
      clear hNext hnew
      try simp only [Act.put, List.setIfInBounds_toArray, List.set_cons_zero, List.set_cons_succ]
      refine wpAnyH_take (i := 4) (v := ?_) (by simp only [List.getElem?_toArray, List.getElem?_cons_succ, List.getElem?_cons_zero]; rfl) (by kernel_rfl) (by kernel_rfl) (by kernel_rfl) (by exact fun _ _ _ h => h) (Or.inl ⟨by rfl, ?_⟩) hOn ?_
      rotate_left
      focus (intro W hSW; go_simp; try with_reducible rfl)
      try simp only [Act.put, List.setIfInBounds_toArray, List.set_cons_zero, List.set_cons_succ]
      refine wpAnyH_ready (rs := [5]) (by kernel_rfl) (by simp) ?_
      refine AllReadyH.cons (by simp only [List.getElem?_toArray, List.getElem?_cons_succ, List.getElem?_cons_zero]; rfl) (fun K hK => ?_) AllReadyH.nil
      go_simp
      try go_wp2_with fail
      refine hK.out _ _ (by first | exact Grown.alloc hOn _ | exact Grown.alloc (Grown.refl _) _) (fun hNext => ?_)
      clear hK K hOn
      have hOn := hNext
      clear hNext
      try simp only [Act.put, List.setIfInBounds_toArray, List.set_cons_zero, List.set_cons_succ]
      refine wpAnyH_take (i := 6) (v := ?_) (by simp only [List.getElem?_toArray, List.getElem?_cons_succ, List.getElem?_cons_zero]; rfl) (by kernel_rfl) (by kernel_rfl) (by kernel_rfl) (by exact fun _ _ _ h => h) (Or.inl ⟨by rfl, ?_⟩) hOn ?_
      rotate_left
      focus (intro W hSW; go_simp; try with_reducible rfl)
      try simp only [Act.put, List.setIfInBounds_toArray, List.set_cons_zero, List.set_cons_succ]
      refine wpAnyH_done (by kernel_rfl) ?_ _
      go_wp2_with fail
      go_ret
      exact ⟨_, rfl, keyAt_new hr3.out hr4.out, hb2.out.alloc hb2.out.size _⟩
end Go.Proofs.YtfmeheolcibfeaaDoor
