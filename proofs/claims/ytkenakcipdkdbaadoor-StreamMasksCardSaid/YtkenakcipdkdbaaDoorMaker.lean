/- The walks over stream.counted, stream.maker's methods. -/
import Derived.Test.YtkenakcipdkdbaaDoorNumber
import Derived.Test.YtkenakcipdkdbaaDoorMacN
import Derived.Test.YtkenakcipdkdbaaDoorOnL
namespace Go.Proofs.YtkenakcipdkdbaaDoor
open Go.RowKit

/-- A block of a key's stream. -/
def blockB (key : List UInt8) (n : Int) : List UInt8 := (hmac key (numB n)).take 8
theorem blockB_length (key : List UInt8) (n : Int) : (blockB key n).length = 8 := by rw [blockB, List.length_take, hmac_length]; rfl
def cntd (n : Int) : Bool := decide (0 ≤ n ∧ n ≤ 1099511627776)

theorem counted_any (n : Int) (w : World) : Calls Tryd.prog 20 #[.int .i64 n] w fun e w' => e = .returned (.bool (cntd n)) ∧ w = w' := by
  have hd : cntd n = (decide (0 ≤ n) && decide (n ≤ 1099511627776)) := by unfold cntd; rw [Bool.decide_and]
  rw [hd]
  cases h1 : decide (0 ≤ n)
  all_goals
    cases h2 : decide (n ≤ 1099511627776)
    all_goals
      go_enter Tryd.func20, Tryd.ntmps20
      go_wp2_with fail
      go_ret
      exact ⟨rfl, rfl⟩

set_option maxRecDepth 10000 in
set_option maxHeartbeats 1000000 in
theorem mkBlock_any (b : Nat) (key : List UInt8) (n : Int) (w : World) (hk : KeyAt w b key) (h1 : -9223372036854775808 ≤ n) (h2 : n ≤ 9223372036854775807) (hK : ShaK w) (hF : ShaF w) :
    Calls Tryd.prog 24 #[.agg #[.pointer (some ⟨b, 0, none⟩)], .int .i64 n] w fun e w' => ∃ v, e = .returned v ∧ OwnB w.heap.size w' v (blockB key n) ∧ Below w.heap.size w w' := by
  have zr2 := zero32_run
  have zn2 := zero32_ne
  obtain ⟨A, hA⟩ : ∃ A, A = w.alloc (.cells #[.pointer (some ⟨b, 0, none⟩)] 51) := ⟨_, rfl⟩
  have hw0 : Grown w A := by rw [hA]; exact (Below.refl _ w).alloc (Nat.le_refl _) _
  have hb0 : A.heap[w.heap.size]? = some (.cells #[.pointer (some ⟨b, 0, none⟩)] 51 (0, 0)) := by rw [hA]; exact heap_alloc_new w _
  obtain ⟨p, hp⟩ : ∃ p, p = w.heap.size := ⟨_, rfl⟩
  rw [← hp] at hb0
  have kc0 : ∀ W, Grown A W → W.cell? ⟨p, 0, none⟩ = some (.pointer (some ⟨b, 0, none⟩)) := fun W hW => by
    rw [cell_of_block (rowG hb0 W hW)]; rfl
  have hkA := hk.below hw0
  have hKA := hK.below hw0
  have hFA := hF.below hw0
  have hdr := Lib.hid (Grown.drew (Grown.refl A))
  have sD := size32 (hmac key (numB n)) (hmac_length _ _)
  have s32 := z32 (hmac key (numB n)) (hmac_length _ _)
  have sO := cB_all (hmac key (numB n))
  have hnb := numB_length n
  have hof := fun W (g : Nat) B C D E => keyOf_any b key (some ⟨g, 0, none⟩) 1 [numB n] W B C (by simp; omega) (by simp) D E
  rw [show [numB n].flatten = numB n from by simp, show [numB n].length = 1 from rfl] at hof
  have hln := fun W => lnum_any n W h1 h2
  have hlen := Lib.hid (blockB_length key n)
  have harg := Lib.hid (fun (W : World) (g : Nat) (hh : W.heap[g]? = some (.cells (cB (hmac key (numB n))).toArray 64 (0, 0))) => argB_takeN (argB_block (c := 32) hh (by rw [hmac_length]; omega) (by omega)) 8 (by rw [hmac_length]; omega))
  rw [show (hmac key (numB n)).take 8 = blockB key n from rfl] at harg
  obtain ⟨D, hD⟩ : ∃ D, D = (cB (hmac key (numB n))).toArray := ⟨_, rfl⟩
  rw [← hD] at sD s32 sO harg hof
  replace hof := Lib.hid hof; replace hln := Lib.hid hln; replace hkA := Lib.hid hkA; replace hKA := Lib.hid hKA; replace hFA := Lib.hid hFA; replace hw0 := Lib.hid hw0; replace hD := Lib.hid hD; replace hA := Lib.hid hA; replace hp := Lib.hid hp; replace hnb := Lib.hid hnb
  clear hk hK hF hb0
  generalize blockB key n = T at *
  go_enter Tryd.func24, Tryd.ntmps24
  go_wp2_with fail
  rw [← hA.out, ← hp.out]
  refine wp_region_held_drew (S := (Grown A)) (by kernel_rfl) hdr.out (fun hOn => ?_)
  generalize World.drew A = wd at *
  refine wpAnyH_take (i := 0) (v := ?_) (by simp only [List.getElem?_toArray, List.getElem?_cons_zero]; rfl) (by kernel_rfl) (by kernel_rfl) (by kernel_rfl) (by exact fun _ _ _ h => h) (Or.inl ⟨by rfl, ?_⟩) hOn ?_
  rotate_left
  focus (intro W hSW; go_simp; try with_reducible rfl)
  try simp only [Act.put, List.setIfInBounds_toArray, List.set_cons_zero, List.set_cons_succ]
  refine wpAnyH_take (i := 1) (v := ?_) (by simp only [List.getElem?_toArray, List.getElem?_cons_succ, List.getElem?_cons_zero]; rfl) (by kernel_rfl) (by kernel_rfl) (by kernel_rfl) (by exact fun _ _ _ h => h) (Or.inl ⟨by rfl, ?_⟩) hOn ?_
  rotate_left
  focus (intro W hSW; go_simp; try with_reducible rfl)
  try simp only [Act.put, List.setIfInBounds_toArray, List.set_cons_zero, List.set_cons_succ]
  refine wpAnyH_take (i := 2) (v := ?_) (by simp only [List.getElem?_toArray, List.getElem?_cons_succ, List.getElem?_cons_zero]; rfl) (by kernel_rfl) (by kernel_rfl) (by kernel_rfl) (by exact fun _ _ _ h => h) (Or.inl ⟨by rfl, ?_⟩) hOn ?_
  rotate_left
  focus (intro W hSW; go_simp; try with_reducible rfl)
  try simp only [Act.put, List.setIfInBounds_toArray, List.set_cons_zero, List.set_cons_succ]
  refine wpAnyH_ready (rs := [3, 6]) (by kernel_rfl) (by simp) ?_
  refine AllReadyH.cons (by simp only [List.getElem?_toArray, List.getElem?_cons_succ, List.getElem?_cons_zero]; rfl) (fun Kz hKz => ?_) ?_
  go_simp
  (with_reducible refine (hln.out _).mono ?_)
  rintro e w3 ⟨v3, rfl, ho3, hnew⟩
  obtain ⟨a3, c3, rfl, h3, _⟩ := ho3.arg
  rw [hnb.out]
  (try replace hz6 := Lib.hid (rowG hz6.out _ hnew))
  replace h3 := Lib.hid h3
  clear ho3
  go_wp2_with fail
  refine hKz.out _ _ (by first | exact hS | exact Below.trans hOn (Below.mono hnew (Below.size hOn))) (fun hNext => ?_)
  clear hKz Kz hOn
  have hOn := hNext
  clear hNext
  try clear hnew
  try clear hS
  try simp only [Act.put, List.setIfInBounds_toArray, List.set_cons_zero, List.set_cons_succ]
  refine wpAnyH_ready (rs := [4, 6]) (by kernel_rfl) (by simp) ?_
  refine AllReadyH.cons (by simp only [List.getElem?_toArray, List.getElem?_cons_succ, List.getElem?_cons_zero]; rfl) (fun Kz hKz => ?_) ?_
  go_simp
  try go_wp2_with fail
  (with_reducible refine made_step (t := 22) ?_)
  intro w5 hx5 hnew
  (try replace hz6 := Lib.hid (rowG hz6.out _ hnew))
  have hnb5 := hnb.out
  have hbb := argBB_one (h3.out.below hnew) (by rw [hnb5]; exact hx5.out)
  replace hbb := Lib.hid hbb
  clear hx5 h3 hnb5
  refine hKz.out _ _ (by first | exact hS | exact Below.trans hOn (Below.mono hnew (Below.size hOn))) (fun hNext => ?_)
  clear hKz Kz hOn
  have hOn := hNext
  clear hNext
  try clear hnew
  try clear hS
  try simp only [Act.put, List.setIfInBounds_toArray, List.set_cons_zero, List.set_cons_succ]
  refine wpAnyH_ready (rs := [5, 6]) (by kernel_rfl) (by simp) ?_
  refine AllReadyH.cons (by simp only [List.getElem?_toArray, List.getElem?_cons_succ, List.getElem?_cons_zero]; rfl) (fun Kz hKz => ?_) ?_
  go_simp
  (with_reducible refine (hof.out _ _ (hkA.out.below hOn) hbb.out (hKA.out.below hOn) (hFA.out.below hOn)).mono ?_)
  rintro e w7 ⟨rfl, hnew⟩
  (try replace hz6 := Lib.hid (rowG hz6.out _ hnew))
  clear hbb
  go_wp2_with fail
  refine hKz.out _ _ (by first | exact hS | exact Below.trans hOn (Below.mono hnew (Below.size hOn))) (fun hNext => ?_)
  clear hKz Kz hOn
  have hOn := hNext
  clear hNext
  try clear hnew
  try clear hS
  try simp only [Act.put, List.setIfInBounds_toArray, List.set_cons_zero, List.set_cons_succ]
  refine wpAnyH_ready (rs := [6]) (by kernel_rfl) (by simp) ?_
  refine AllReadyH.cons (by simp only [List.getElem?_toArray, List.getElem?_cons_succ, List.getElem?_cons_zero]; rfl) (fun Kz hKz => ?_) AllReadyH.nil
  go_simp
  try go_wp2_with fail
  (with_reducible refine made_step (t := 64) ?_)
  intro w6 hz6 hnew
  have hs6 := hOn.size
  (try replace hbb := Lib.hid (hbb.out.below hnew))
  (try replace h3 := Lib.hid (h3.out.below hnew))
  refine hKz.out _ _ (by first | exact hS | exact Below.trans hOn (Below.mono hnew (Below.size hOn))) (fun hNext => ?_)
  clear hKz Kz hOn
  have hOn := hNext
  clear hNext
  try clear hnew
  try clear hS
  try simp only [Act.put, List.setIfInBounds_toArray, List.set_cons_zero, List.set_cons_succ]
  refine wpAnyH_ready (rs := [7]) (by kernel_rfl) (by simp) ?_
  refine AllReadyH.cons (by simp only [List.getElem?_toArray, List.getElem?_cons_succ, List.getElem?_cons_zero]; rfl) (fun Kz hKz => ?_) AllReadyH.nil
  rw [if_pos (by rfl)]
  (with_reducible refine wp_store_rowK 64 (.tmp 5) (.tmp 11) rfl _ zero32 D rfl rfl hz6 sD s32 sO ?_)
  intro w9 hU9
  have hS := Below.trans hOn (hU9.out.below hs6)
  have h9 := Lib.hid (harg.out _ _ hU9.out.here)
  clear hU9 hz6
  refine hKz.out _ _ (by first | exact hS | exact Below.trans hOn (Below.mono hnew (Below.size hOn))) (fun hNext => ?_)
  clear hKz Kz hOn
  have hOn := hNext
  clear hNext
  try clear hnew
  try clear hS
  try simp only [Act.put]
  refine wpAnyH_done (by kernel_rfl) ?_ _
  rotate_left
  refine AllReadyH.cons (by simp only [List.getElem?_toArray, List.getElem?_cons_succ, List.getElem?_cons_zero]; rfl) (fun Kz hKz => ?_) AllReadyH.nil
  go_simp
  try go_wp2_with fail
  (with_reducible refine made_step (t := 64) ?_)
  intro w6 hz6 hnew
  have hs6 := hOn.size
  (try replace hbb := Lib.hid (hbb.out.below hnew))
  (try replace h3 := Lib.hid (h3.out.below hnew))
  refine hKz.out _ _ (by first | exact hS | exact Below.trans hOn (Below.mono hnew (Below.size hOn))) (fun hNext => ?_)
  clear hKz Kz hOn
  have hOn := hNext
  clear hNext
  try clear hnew
  try clear hS
  try simp only [Act.put, List.setIfInBounds_toArray, List.set_cons_zero, List.set_cons_succ]
  refine wpAnyH_ready (rs := [5]) (by kernel_rfl) (by simp) ?_
  refine AllReadyH.cons (by simp only [List.getElem?_toArray, List.getElem?_cons_succ, List.getElem?_cons_zero]; rfl) (fun Kz hKz => ?_) AllReadyH.nil
  go_simp
  (with_reducible refine (hof.out _ _ (hkA.out.below hOn) hbb.out (hKA.out.below hOn) (hFA.out.below hOn)).mono ?_)
  rintro e w7 ⟨rfl, hnew⟩
  (try replace hz6 := Lib.hid (rowG hz6.out _ hnew))
  clear hbb
  go_wp2_with fail
  refine hKz.out _ _ (by first | exact hS | exact Below.trans hOn (Below.mono hnew (Below.size hOn))) (fun hNext => ?_)
  clear hKz Kz hOn
  have hOn := hNext
  clear hNext
  try clear hnew
  try clear hS
  try simp only [Act.put, List.setIfInBounds_toArray, List.set_cons_zero, List.set_cons_succ]
  refine wpAnyH_ready (rs := [7]) (by kernel_rfl) (by simp) ?_
  refine AllReadyH.cons (by simp only [List.getElem?_toArray, List.getElem?_cons_succ, List.getElem?_cons_zero]; rfl) (fun Kz hKz => ?_) AllReadyH.nil
  rw [if_pos (by rfl)]
  (with_reducible refine wp_store_rowK 64 (.tmp 5) (.tmp 11) rfl _ zero32 D rfl rfl hz6 sD s32 sO ?_)
  intro w9 hU9
  have hS := Below.trans hOn (hU9.out.below hs6)
  have h9 := Lib.hid (harg.out _ _ hU9.out.here)
  clear hU9 hz6
  refine hKz.out _ _ (by first | exact hS | exact Below.trans hOn (Below.mono hnew (Below.size hOn))) (fun hNext => ?_)
  clear hKz Kz hOn
  have hOn := hNext
  clear hNext
  try clear hnew
  try clear hS
  try simp only [Act.put]
  refine wpAnyH_done (by kernel_rfl) ?_ _
  rotate_left
  refine AllReadyH.cons (by simp only [List.getElem?_toArray, List.getElem?_cons_succ, List.getElem?_cons_zero]; rfl) (fun Kz hKz => ?_) AllReadyH.nil
  go_simp
  try go_wp2_with fail
  (with_reducible refine made_step (t := 64) ?_)
  intro w6 hz6 hnew
  have hs6 := hOn.size
  (try replace hbb := Lib.hid (hbb.out.below hnew))
  (try replace h3 := Lib.hid (h3.out.below hnew))
  refine hKz.out _ _ (by first | exact hS | exact Below.trans hOn (Below.mono hnew (Below.size hOn))) (fun hNext => ?_)
  clear hKz Kz hOn
  have hOn := hNext
  clear hNext
  try clear hnew
  try clear hS
  try simp only [Act.put, List.setIfInBounds_toArray, List.set_cons_zero, List.set_cons_succ]
  refine wpAnyH_ready (rs := [4]) (by kernel_rfl) (by simp) ?_
  refine AllReadyH.cons (by simp only [List.getElem?_toArray, List.getElem?_cons_succ, List.getElem?_cons_zero]; rfl) (fun Kz hKz => ?_) AllReadyH.nil
  go_simp
  try go_wp2_with fail
  (with_reducible refine made_step (t := 22) ?_)
  intro w5 hx5 hnew
  (try replace hz6 := Lib.hid (rowG hz6.out _ hnew))
  have hnb5 := hnb.out
  have hbb := argBB_one (h3.out.below hnew) (by rw [hnb5]; exact hx5.out)
  replace hbb := Lib.hid hbb
  clear hx5 h3 hnb5
  refine hKz.out _ _ (by first | exact hS | exact Below.trans hOn (Below.mono hnew (Below.size hOn))) (fun hNext => ?_)
  clear hKz Kz hOn
  have hOn := hNext
  clear hNext
  try clear hnew
  try clear hS
  try simp only [Act.put, List.setIfInBounds_toArray, List.set_cons_zero, List.set_cons_succ]
  refine wpAnyH_ready (rs := [5]) (by kernel_rfl) (by simp) ?_
  refine AllReadyH.cons (by simp only [List.getElem?_toArray, List.getElem?_cons_succ, List.getElem?_cons_zero]; rfl) (fun Kz hKz => ?_) AllReadyH.nil
  go_simp
  (with_reducible refine (hof.out _ _ (hkA.out.below hOn) hbb.out (hKA.out.below hOn) (hFA.out.below hOn)).mono ?_)
  rintro e w7 ⟨rfl, hnew⟩
  (try replace hz6 := Lib.hid (rowG hz6.out _ hnew))
  clear hbb
  go_wp2_with fail
  refine hKz.out _ _ (by first | exact hS | exact Below.trans hOn (Below.mono hnew (Below.size hOn))) (fun hNext => ?_)
  clear hKz Kz hOn
  have hOn := hNext
  clear hNext
  try clear hnew
  try clear hS
  try simp only [Act.put, List.setIfInBounds_toArray, List.set_cons_zero, List.set_cons_succ]
  refine wpAnyH_ready (rs := [7]) (by kernel_rfl) (by simp) ?_
  refine AllReadyH.cons (by simp only [List.getElem?_toArray, List.getElem?_cons_succ, List.getElem?_cons_zero]; rfl) (fun Kz hKz => ?_) AllReadyH.nil
  rw [if_pos (by rfl)]
  (with_reducible refine wp_store_rowK 64 (.tmp 5) (.tmp 11) rfl _ zero32 D rfl rfl hz6 sD s32 sO ?_)
  intro w9 hU9
  have hS := Below.trans hOn (hU9.out.below hs6)
  have h9 := Lib.hid (harg.out _ _ hU9.out.here)
  clear hU9 hz6
  refine hKz.out _ _ (by first | exact hS | exact Below.trans hOn (Below.mono hnew (Below.size hOn))) (fun hNext => ?_)
  clear hKz Kz hOn
  have hOn := hNext
  clear hNext
  try clear hnew
  try clear hS
  try simp only [Act.put]
  refine wpAnyH_done (by kernel_rfl) ?_ _
  rotate_left
  refine AllReadyH.cons (by simp only [List.getElem?_toArray, List.getElem?_cons_succ, List.getElem?_cons_zero]; rfl) (fun Kz hKz => ?_) AllReadyH.nil
  go_simp
  try go_wp2_with fail
  (with_reducible refine made_step (t := 64) ?_)
  intro w6 hz6 hnew
  have hs6 := hOn.size
  (try replace hbb := Lib.hid (hbb.out.below hnew))
  (try replace h3 := Lib.hid (h3.out.below hnew))
  refine hKz.out _ _ (by first | exact hS | exact Below.trans hOn (Below.mono hnew (Below.size hOn))) (fun hNext => ?_)
  clear hKz Kz hOn
  have hOn := hNext
  clear hNext
  try clear hnew
  try clear hS
  try simp only [Act.put, List.setIfInBounds_toArray, List.set_cons_zero, List.set_cons_succ]
  refine wpAnyH_ready (rs := [3]) (by kernel_rfl) (by simp) ?_
  refine AllReadyH.cons (by simp only [List.getElem?_toArray, List.getElem?_cons_succ, List.getElem?_cons_zero]; rfl) (fun Kz hKz => ?_) AllReadyH.nil
  go_simp
  (with_reducible refine (hln.out _).mono ?_)
  rintro e w3 ⟨v3, rfl, ho3, hnew⟩
  obtain ⟨a3, c3, rfl, h3, _⟩ := ho3.arg
  rw [hnb.out]
  (try replace hz6 := Lib.hid (rowG hz6.out _ hnew))
  replace h3 := Lib.hid h3
  clear ho3
  go_wp2_with fail
  refine hKz.out _ _ (by first | exact hS | exact Below.trans hOn (Below.mono hnew (Below.size hOn))) (fun hNext => ?_)
  clear hKz Kz hOn
  have hOn := hNext
  clear hNext
  try clear hnew
  try clear hS
  try simp only [Act.put, List.setIfInBounds_toArray, List.set_cons_zero, List.set_cons_succ]
  refine wpAnyH_ready (rs := [4]) (by kernel_rfl) (by simp) ?_
  refine AllReadyH.cons (by simp only [List.getElem?_toArray, List.getElem?_cons_succ, List.getElem?_cons_zero]; rfl) (fun Kz hKz => ?_) AllReadyH.nil
  go_simp
  try go_wp2_with fail
  (with_reducible refine made_step (t := 22) ?_)
  intro w5 hx5 hnew
  (try replace hz6 := Lib.hid (rowG hz6.out _ hnew))
  have hnb5 := hnb.out
  have hbb := argBB_one (h3.out.below hnew) (by rw [hnb5]; exact hx5.out)
  replace hbb := Lib.hid hbb
  clear hx5 h3 hnb5
  refine hKz.out _ _ (by first | exact hS | exact Below.trans hOn (Below.mono hnew (Below.size hOn))) (fun hNext => ?_)
  clear hKz Kz hOn
  have hOn := hNext
  clear hNext
  try clear hnew
  try clear hS
  try simp only [Act.put, List.setIfInBounds_toArray, List.set_cons_zero, List.set_cons_succ]
  refine wpAnyH_ready (rs := [5]) (by kernel_rfl) (by simp) ?_
  refine AllReadyH.cons (by simp only [List.getElem?_toArray, List.getElem?_cons_succ, List.getElem?_cons_zero]; rfl) (fun Kz hKz => ?_) AllReadyH.nil
  go_simp
  (with_reducible refine (hof.out _ _ (hkA.out.below hOn) hbb.out (hKA.out.below hOn) (hFA.out.below hOn)).mono ?_)
  rintro e w7 ⟨rfl, hnew⟩
  (try replace hz6 := Lib.hid (rowG hz6.out _ hnew))
  clear hbb
  go_wp2_with fail
  refine hKz.out _ _ (by first | exact hS | exact Below.trans hOn (Below.mono hnew (Below.size hOn))) (fun hNext => ?_)
  clear hKz Kz hOn
  have hOn := hNext
  clear hNext
  try clear hnew
  try clear hS
  try simp only [Act.put, List.setIfInBounds_toArray, List.set_cons_zero, List.set_cons_succ]
  refine wpAnyH_ready (rs := [7]) (by kernel_rfl) (by simp) ?_
  refine AllReadyH.cons (by simp only [List.getElem?_toArray, List.getElem?_cons_succ, List.getElem?_cons_zero]; rfl) (fun Kz hKz => ?_) AllReadyH.nil
  rw [if_pos (by rfl)]
  (with_reducible refine wp_store_rowK 64 (.tmp 5) (.tmp 11) rfl _ zero32 D rfl rfl hz6 sD s32 sO ?_)
  intro w9 hU9
  have hS := Below.trans hOn (hU9.out.below hs6)
  have h9 := Lib.hid (harg.out _ _ hU9.out.here)
  clear hU9 hz6
  refine hKz.out _ _ (by first | exact hS | exact Below.trans hOn (Below.mono hnew (Below.size hOn))) (fun hNext => ?_)
  clear hKz Kz hOn
  have hOn := hNext
  clear hNext
  try clear hnew
  try clear hS
  try simp only [Act.put]
  refine wpAnyH_done (by kernel_rfl) ?_ _
  all_goals
    have hb9 := Lib.hid (Below.trans hw0.out (Below.mono hOn hw0.out.size))
    go_wp2_with fail
    have hcl := clone_any _ 32 T w9 h9.out (by have := hlen.out; omega)
    rw [hlen.out] at hcl
    with_reducible refine hcl.mono ?_
    rintro e w10 ⟨v, rfl, ho, hd⟩
    have ho2 := Lib.hid (OwnB.mono (base' := w.heap.size) ho hb9.out.size)
    have hb3 := Lib.hid (hb9.out.trans (hd.mono hb9.out.size))
    clear ho hd hcl
    go_wp2_with fail
    go_ret
    exact ⟨_, rfl, ho2.out, hb3.out⟩

end Go.Proofs.YtkenakcipdkdbaaDoor
