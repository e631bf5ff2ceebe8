/- The walks over shuffle's Order: its round function. -/
import Derived.Test.YtmngcnhnpfnloaaDoorMakerB
import Derived.Test.YtmngcnhnpfnloaaDoorShufL
import Derived.Test.YtmngcnhnpfnloaaDoorOnL
namespace Go.Proofs.YtmngcnhnpfnloaaDoor
open Go.RowKit

/-- The bytes of a round, its number. -/
def rndB (key : List UInt8) (n half : Nat) : List UInt8 := (hmac key ([UInt8.ofNat n] ++ numB half)).take 8
theorem rndB_length (key : List UInt8) (n half : Nat) : (rndB key n half).length = 8 := by rw [rndB, List.length_take, hmac_length]; rfl
def rnd (key : List UInt8) (bits n half : Nat) : Nat := beNat (rndB key n half) 8 % 2 ^ bits
theorem rnd_lt (key : List UInt8) (bits n half : Nat) : rnd key bits n half < 2 ^ bits := Nat.mod_lt _ (Nat.two_pow_pos _)
/-- An order in memory. -/
def OrdAt (w : World) (b : Nat) (key : List UInt8) (size bits : Nat) : Prop :=
  ∃ kb, KeyAt w kb key ∧ w.heap[b]? = some (.cells #[.pointer (some ⟨kb, 0, none⟩), .int .i64 (size : Int), .int .i64 (bits : Int)] 45 (0, 0))
theorem OrdAt.below {w w' : World} {b : Nat} {key : List UInt8} {size bits : Nat} (h : OrdAt w b key size bits) (hb : Below w.heap.size w w') : OrdAt w' b key size bits := by
  obtain ⟨kb, h1, h2⟩ := h
  exact ⟨kb, h1.below hb, (hb.block b (block_lt h2)).trans h2⟩
theorem OrdAt.size {w : World} {b : Nat} {key : List UInt8} {size bits : Nat} (h : OrdAt w b key size bits) : w.cell? ⟨b, 1, none⟩ = some (.int .i64 (size : Int)) := by
  obtain ⟨kb, h1, h2⟩ := h
  rw [cell_of_block h2]; rfl
theorem OrdAt.bits {w : World} {b : Nat} {key : List UInt8} {size bits : Nat} (h : OrdAt w b key size bits) : w.cell? ⟨b, 2, none⟩ = some (.int .i64 (bits : Int)) := by
  obtain ⟨kb, h1, h2⟩ := h
  rw [cell_of_block h2]; rfl
theorem shl_bits (bits : Nat) (hb2 : bits ≤ 10) : (2 : Nat) ^ bits ≤ 1024 := Nat.le_trans (Nat.pow_le_pow_right (by omega) hb2) (by decide)

theorem mod_wrap (x P : Nat) (h : 0 < P) (h2 : P ≤ 1024) : wrap64 ((x : Int) % (P : Int)) = ((x % P : Nat) : Int) := by
  obtain ⟨y, hy⟩ : ∃ y, y = x % P := ⟨_, rfl⟩
  rw [show (x : Int) % (P : Int) = (y : Int) from by rw [hy]; simp, ← hy]
  have hlt : y < P := by rw [hy]; exact Nat.mod_lt x h
  clear hy
  exact IntWalk.wrap64_in (y : Int) (by omega)

set_option maxRecDepth 10000 in
set_option maxHeartbeats 1000000 in
theorem round_any (b : Nat) (key : List UInt8) (size bits n half : Nat) (w : World) (hO : OrdAt w b key size bits) (hn : n < 4) (hh : half < 1024) (hb1 : 1 ≤ bits) (hb2 : bits ≤ 10) (hK : ShaK w) (hF : ShaF w) :
    Calls Tryd.prog 29 #[.pointer (some ⟨b, 0, none⟩), .int .i64 (n : Int), .int .i64 (half : Int)] w fun e w' => e = .returned (.int .i64 ((rnd key bits n half : Nat) : Int)) ∧ Below w.heap.size w w' := by
  have zr2 := zero32_run
  have zn2 := zero32_ne
  obtain ⟨kb, hk, hrow⟩ := hO
  have kc0 : ∀ W, Grown w W → W.cell? ⟨b, 0, none⟩ = some (.pointer (some ⟨kb, 0, none⟩)) := fun W hW => by
    rw [cell_of_block (rowG hrow W hW)]; rfl
  have kc2 : ∀ W, Grown w W → W.cell? ⟨b, 2, none⟩ = some (.int .i64 (bits : Int)) := fun W hW => by
    rw [cell_of_block (rowG hrow W hW)]; rfl
  have hdr := Lib.hid (Grown.drew (Grown.refl w))
  have sD := size32 (hmac key ([UInt8.ofNat n] ++ numB half)) (hmac_length _ _)
  have s32 := z32 (hmac key ([UInt8.ofNat n] ++ numB half)) (hmac_length _ _)
  have sO := cB_all (hmac key ([UInt8.ofNat n] ++ numB half))
  have hnb := numB_length (half : Int)
  have hof := fun W (g : Nat) B C D E => keyOf_any kb key (some ⟨g, 0, none⟩) 2 [[UInt8.ofNat n], numB half] W B C (by simp [numB_length]) (by simp) D E
  rw [show [[UInt8.ofNat n], numB half].flatten = [UInt8.ofNat n] ++ numB half from by simp, show [[UInt8.ofNat n], numB half].length = 2 from rfl] at hof
  have hln := fun W => lnum_any (half : Int) W (by omega) (by omega)
  have hlen := Lib.hid (rndB_length key n half)
  have harg := Lib.hid (fun (W : World) (g : Nat) (hh : W.heap[g]? = some (.cells (cB (hmac key ([UInt8.ofNat n] ++ numB half))).toArray 55 (0, 0))) => argB_takeN (argB_block (c := 32) hh (by rw [hmac_length]; omega) (by omega)) 8 (by rw [hmac_length]; omega))
  rw [show (hmac key ([UInt8.ofNat n] ++ numB half)).take 8 = rndB key n half from rfl] at harg
  have hn8 : ((UInt8.ofNat n).toNat : Int) = (n : Int) := by rw [UInt8.toNat_ofNat']; omega
  have h17f := Lib.hid (fun (W : World) (g : Nat) (hh : W.heap[g]? = some (.cells #[.int .u8 (n : Int)] 5 (0, 0))) => argB_block (l := [UInt8.ofNat n]) (c := 1) (by show _ = some (Obj.cells #[.int .u8 ((UInt8.ofNat n).toNat : Int)] 5 (0, 0)); rw [hn8]; exact hh) (by simp) (by omega))
  obtain ⟨D, hD⟩ : ∃ D, D = (cB (hmac key ([UInt8.ofNat n] ++ numB half))).toArray := ⟨_, rfl⟩
  rw [← hD] at sD s32 sO harg hof
  have hrd := Lib.hid (show rnd key bits n half = beNat (rndB key n half) 8 % 2 ^ bits from rfl)
  have hp2 := shl_bits bits hb2
  have hshl : IntKind.u64.wrap ((2 : Int) ^ bits) = ((2 ^ bits : Nat) : Int) := by
    rw [show (2 : Int) ^ bits = ((2 ^ bits : Nat) : Int) from by simp]
    clear hof hln harg sD s32 sO
    generalize (2 : Nat) ^ bits = P at *
    exact IntWalk.u64_in _ (by omega)
  have hpp := Nat.two_pow_pos bits
  generalize hPP : 2 ^ bits = P at hrd hp2 hpp hshl
  have hP0 : (0 : Int) < P := by omega
  have hP1 : ((P : Int) == 0) = false := beq_eq_false_iff_ne.2 (by omega)
  have hP2 : (P : Int) ≤ 1024 := by omega
  have hxm := fun x : Nat => mod_wrap x P hpp hp2
  clear hPP
  replace hpp := Lib.hid hpp
  replace hp2 := Lib.hid hp2
  replace hxm := Lib.hid hxm
  have hw8 : IntKind.u8.wrap (n : Int) = (n : Int) := by
    have h4 : n = 0 ∨ n = 1 ∨ n = 2 ∨ n = 3 := by omega
    rcases h4 with rfl | rfl | rfl | rfl <;> rfl
  have hlt4 : (n : Int) < 4 := by omega
  have hlth : (half : Int) < 1024 := by omega
  have hbi1 : (1 : Int) ≤ bits := by omega
  have hbi2 : (bits : Int) ≤ 10 := by omega
  replace hk := Lib.hid hk
  clear hn8
  replace hof := Lib.hid hof; replace hln := Lib.hid hln; replace hK := Lib.hid hK; replace hF := Lib.hid hF; replace hD := Lib.hid hD; replace hnb := Lib.hid hnb
  clear hrow
  generalize rnd key bits n half = R at *
  generalize rndB key n half = T at *
  go_enter Tryd.func29, Tryd.ntmps29
  go_wp2_with fail
  refine wp_region_held_drew (S := (Grown w)) (by kernel_rfl) hdr.out (fun hOn => ?_)
  generalize World.drew w = wd at *
  refine wpAnyH_take (i := 0) (v := ?_) (by simp only [List.getElem?_toArray, List.getElem?_cons_zero]; rfl) (by kernel_rfl) (by kernel_rfl) (by kernel_rfl) (by exact fun _ _ _ h => h) (Or.inl ⟨by rfl, ?_⟩) hOn ?_
  rotate_left
  focus (intro W hSW; go_simp; try with_reducible rfl)
  try simp only [Act.put, List.setIfInBounds_toArray, List.set_cons_zero, List.set_cons_succ]
  refine wpAnyH_take (i := 1) (v := ?_) (by simp only [List.getElem?_toArray, List.getElem?_cons_succ, List.getElem?_cons_zero]; rfl) (by kernel_rfl) (by kernel_rfl) (by kernel_rfl) (by exact fun _ _ _ h => h) (Or.inl ⟨by rfl, ?_⟩) hOn ?_
  rotate_left
  focus (intro W hSW; go_simp; try with_reducible rfl)
  try simp only [Act.put, List.setIfInBounds_toArray, List.set_cons_zero, List.set_cons_succ]
  refine wpAnyH_take (i := 2) (v := ?_) (by simp only [List.getElem?_toArray, List.getElem?_cons_succ, List.getElem?_cons_zero]; rfl) (by kernel_rfl) (by kernel_rfl) (by kernel_rfl) (by exact fun _ _ _ h => h) (Or.inl ⟨by rfl, ?_⟩) hOn ?_
  rotate_left
  focus (intro W hSW; go_simp; try with_reducible rfl)
  try simp only [Act.put, List.setIfInBounds_toArray, List.set_cons_zero, List.set_cons_succ]
  refine wpAnyH_take (i := 3) (v := ?_) (by simp only [List.getElem?_toArray, List.getElem?_cons_succ, List.getElem?_cons_zero]; rfl) (by kernel_rfl) (by kernel_rfl) (by kernel_rfl) (by exact fun _ _ _ h => h) (Or.inl ⟨by rfl, ?_⟩) hOn ?_
  rotate_left
  focus (intro W hSW; go_simp; try with_reducible rfl)
  try simp only [Act.put, List.setIfInBounds_toArray, List.set_cons_zero, List.set_cons_succ]
  refine wpAnyH_take (i := 4) (v := ?_) (by simp only [List.getElem?_toArray, List.getElem?_cons_succ, List.getElem?_cons_zero]; rfl) (by kernel_rfl) (by kernel_rfl) (by kernel_rfl) (by exact fun _ _ _ h => h) (Or.inl ⟨by rfl, ?_⟩) hOn ?_
  rotate_left
  focus (intro W hSW; go_simp; try with_reducible rfl)
  try simp only [Act.put, List.setIfInBounds_toArray, List.set_cons_zero, List.set_cons_succ]
  refine wpAnyH_take (i := 5) (v := ?_) (by simp only [List.getElem?_toArray, List.getElem?_cons_succ, List.getElem?_cons_zero]; rfl) (by kernel_rfl) (by kernel_rfl) (by kernel_rfl) (by exact fun _ _ _ h => h) (Or.inl ⟨by rfl, ?_⟩) hOn ?_
  rotate_left
  focus (intro W hSW; go_simp; try with_reducible rfl)
  try simp only [Act.put, List.setIfInBounds_toArray, List.set_cons_zero, List.set_cons_succ]
  refine wpAnyH_take (i := 7) (v := ?_) (by simp only [List.getElem?_toArray, List.getElem?_cons_succ, List.getElem?_cons_zero]; rfl) (by kernel_rfl) (by kernel_rfl) (by kernel_rfl) (by exact fun _ _ _ h => h) (Or.inl ⟨by rfl, ?_⟩) hOn ?_
  rotate_left
  focus (intro W hSW; go_simp; try with_reducible rfl)
  try simp only [Act.put, List.setIfInBounds_toArray, List.set_cons_zero, List.set_cons_succ]
  refine wpAnyH_ready (rs := [6, 8, 11]) (by kernel_rfl) (by simp) ?_
  refine AllReadyH.cons (by simp only [List.getElem?_toArray, List.getElem?_cons_succ, List.getElem?_cons_zero]; rfl) (fun Kz hKz => ?_) ?_
  go_simp
  try go_wp2_with fail
  (with_reducible refine made_step (t := 5) ?_)
  intro w4 hx4 hnew
  (try replace hz6 := Lib.hid (rowG hz6.out _ hnew))
  (try replace h3 := Lib.hid (h3.out.below hnew))
  have h17 := Lib.hid (h17f.out _ _ hx4.out)
  clear hx4
  refine hKz.out _ _ (by first | exact hS | exact Below.trans hOn (Below.mono hnew (Below.size hOn))) (fun hNext => ?_)
  clear hKz Kz hOn
  have hOn := hNext
  clear hNext
  try clear hnew
  try clear hS
  try simp only [Act.put, List.setIfInBounds_toArray, List.set_cons_zero, List.set_cons_succ]
  refine wpAnyH_ready (rs := [8, 11]) (by kernel_rfl) (by simp) ?_
  refine AllReadyH.cons (by simp only [List.getElem?_toArray, List.getElem?_cons_succ, List.getElem?_cons_zero]; rfl) (fun Kz hKz => ?_) ?_
  go_simp
  (with_reducible refine (hln.out _).mono ?_)
  rintro e w3 ⟨v3, rfl, ho3, hnew⟩
  obtain ⟨a3, c3, rfl, h3, _⟩ := ho3.arg
  rw [hnb.out]
  (try replace hz6 := Lib.hid (rowG hz6.out _ hnew))
  (try replace h17 := Lib.hid (h17.out.below hnew))
  replace h3 := Lib.hid h3
  clear ho3
  go_wp2_with fail
  refine hKz.out _ _ (by first | exact hS | exact Below.trans hOn (Below.mono hnew (Below.size hOn))) (fun hNext => ?_)
  clear hKz Kz hOn
  have hOn := hNext
  clear hNext
  try clear hnew
  try clear hS
  try simp only [Act.put, List.setIfInBounds_toArray, List.set_cons_zero, List.set_cons_succ]
  refine wpAnyH_ready (rs := [9, 11]) (by kernel_rfl) (by simp) ?_
  refine AllReadyH.cons (by simp only [List.getElem?_toArray, List.getElem?_cons_succ, List.getElem?_cons_zero]; rfl) (fun Kz hKz => ?_) ?_
  go_simp
  try go_wp2_with fail
  (with_reducible refine made_step (t := 22) ?_)
  intro w5 hx5 hnew
  (try replace hz6 := Lib.hid (rowG hz6.out _ hnew))
  have hnb5 := hnb.out
  have hbb := argBB_two (h17.out.below hnew) (h3.out.below hnew) (by rw [hnb5]; exact hx5.out)
  replace hbb := Lib.hid hbb
  clear hx5 h3 h17 hnb5
  refine hKz.out _ _ (by first | exact hS | exact Below.trans hOn (Below.mono hnew (Below.size hOn))) (fun hNext => ?_)
  clear hKz Kz hOn
  have hOn := hNext
  clear hNext
  try clear hnew
  try clear hS
  try simp only [Act.put, List.setIfInBounds_toArray, List.set_cons_zero, List.set_cons_succ]
  refine wpAnyH_ready (rs := [10, 11]) (by kernel_rfl) (by simp) ?_
  refine AllReadyH.cons (by simp only [List.getElem?_toArray, List.getElem?_cons_succ, List.getElem?_cons_zero]; rfl) (fun Kz hKz => ?_) ?_
  go_simp
  (with_reducible refine (hof.out _ _ (hk.out.below hOn) hbb.out (hK.out.below hOn) (hF.out.below hOn)).mono ?_)
  rintro e w7 ⟨rfl, hnew⟩
  (try replace hz6 := Lib.hid (rowG hz6.out _ hnew))
  clear hbb
  go_wp2_with fail
  refine hKz.out _ _ (by first | exact hS | exact Below.trans hOn (Below.mono hnew (Below.size hOn))) (fun hNext => ?_)
  clear hKz Kz hOn
  have hOn := hNext
  clear hNext
  try clear hnew
  try clear hS
  try simp only [Act.put, List.setIfInBounds_toArray, List.set_cons_zero, List.set_cons_succ]
  refine wpAnyH_ready (rs := [11]) (by kernel_rfl) (by simp) ?_
  refine AllReadyH.cons (by simp only [List.getElem?_toArray, List.getElem?_cons_succ, List.getElem?_cons_zero]; rfl) (fun Kz hKz => ?_) AllReadyH.nil
  go_simp
  try go_wp2_with fail
  (with_reducible refine made_step (t := 55) ?_)
  intro w6 hz6 hnew
  have hs6 := hOn.size
  (try replace hbb := Lib.hid (hbb.out.below hnew))
  (try replace h3 := Lib.hid (h3.out.below hnew))
  (try replace h17 := Lib.hid (h17.out.below hnew))
  refine hKz.out _ _ (by first | exact hS | exact Below.trans hOn (Below.mono hnew (Below.size hOn))) (fun hNext => ?_)
  clear hKz Kz hOn
  have hOn := hNext
  clear hNext
  try clear hnew
  try clear hS
  try simp only [Act.put, List.setIfInBounds_toArray, List.set_cons_zero, List.set_cons_succ]
  refine wpAnyH_ready (rs := [12]) (by kernel_rfl) (by simp) ?_
  refine AllReadyH.cons (by simp only [List.getElem?_toArray, List.getElem?_cons_succ, List.getElem?_cons_zero]; rfl) (fun Kz hKz => ?_) AllReadyH.nil
  rw [if_pos (by rfl)]
  (with_reducible refine wp_store_rowK 55 (.tmp 7) (.tmp 21) rfl _ zero32 D rfl rfl hz6 sD s32 sO ?_)
  intro w9 hU9
  have hS := Below.trans hOn (hU9.out.below hs6)
  have h9 := Lib.hid (harg.out _ _ hU9.out.here)
  clear hU9 hz6
  refine hKz.out _ _ (by first | exact hS | exact Below.trans hOn (Below.mono hnew (Below.size hOn))) (fun hNext => ?_)
  clear hKz Kz hOn
  have hOn := hNext
  clear hNext
  try clear hnew
  try clear hS
  try simp only [Act.put]
  refine wpAnyH_done (by kernel_rfl) ?_ _
  rotate_left
  refine AllReadyH.cons (by simp only [List.getElem?_toArray, List.getElem?_cons_succ, List.getElem?_cons_zero]; rfl) (fun Kz hKz => ?_) AllReadyH.nil
  go_simp
  try go_wp2_with fail
  (with_reducible refine made_step (t := 55) ?_)
  intro w6 hz6 hnew
  have hs6 := hOn.size
  (try replace hbb := Lib.hid (hbb.out.below hnew))
  (try replace h3 := Lib.hid (h3.out.below hnew))
  (try replace h17 := Lib.hid (h17.out.below hnew))
  refine hKz.out _ _ (by first | exact hS | exact Below.trans hOn (Below.mono hnew (Below.size hOn))) (fun hNext => ?_)
  clear hKz Kz hOn
  have hOn := hNext
  clear hNext
  try clear hnew
  try clear hS
  try simp only [Act.put, List.setIfInBounds_toArray, List.set_cons_zero, List.set_cons_succ]
  refine wpAnyH_ready (rs := [10]) (by kernel_rfl) (by simp) ?_
  refine AllReadyH.cons (by simp only [List.getElem?_toArray, List.getElem?_cons_succ, List.getElem?_cons_zero]; rfl) (fun Kz hKz => ?_) AllReadyH.nil
  go_simp
  (with_reducible refine (hof.out _ _ (hk.out.below hOn) hbb.out (hK.out.below hOn) (hF.out.below hOn)).mono ?_)
  rintro e w7 ⟨rfl, hnew⟩
  (try replace hz6 := Lib.hid (rowG hz6.out _ hnew))
  clear hbb
  go_wp2_with fail
  refine hKz.out _ _ (by first | exact hS | exact Below.trans hOn (Below.mono hnew (Below.size hOn))) (fun hNext => ?_)
  clear hKz Kz hOn
  have hOn := hNext
  clear hNext
  try clear hnew
  try clear hS
  try simp only [Act.put, List.setIfInBounds_toArray, List.set_cons_zero, List.set_cons_succ]
  refine wpAnyH_ready (rs := [12]) (by kernel_rfl) (by simp) ?_
  refine AllReadyH.cons (by simp only [List.getElem?_toArray, List.getElem?_cons_succ, List.getElem?_cons_zero]; rfl) (fun Kz hKz => ?_) AllReadyH.nil
  rw [if_pos (by rfl)]
  (with_reducible refine wp_store_rowK 55 (.tmp 7) (.tmp 21) rfl _ zero32 D rfl rfl hz6 sD s32 sO ?_)
  intro w9 hU9
  have hS := Below.trans hOn (hU9.out.below hs6)
  have h9 := Lib.hid (harg.out _ _ hU9.out.here)
  clear hU9 hz6
  refine hKz.out _ _ (by first | exact hS | exact Below.trans hOn (Below.mono hnew (Below.size hOn))) (fun hNext => ?_)
  clear hKz Kz hOn
  have hOn := hNext
  clear hNext
  try clear hnew
  try clear hS
  try simp only [Act.put]
  refine wpAnyH_done (by kernel_rfl) ?_ _
  rotate_left
  refine AllReadyH.cons (by simp only [List.getElem?_toArray, List.getElem?_cons_succ, List.getElem?_cons_zero]; rfl) (fun Kz hKz => ?_) AllReadyH.nil
  go_simp
  try go_wp2_with fail
  (with_reducible refine made_step (t := 55) ?_)
  intro w6 hz6 hnew
  have hs6 := hOn.size
  (try replace hbb := Lib.hid (hbb.out.below hnew))
  (try replace h3 := Lib.hid (h3.out.below hnew))
  (try replace h17 := Lib.hid (h17.out.below hnew))
  refine hKz.out _ _ (by first | exact hS | exact Below.trans hOn (Below.mono hnew (Below.size hOn))) (fun hNext => ?_)
  clear hKz Kz hOn
  have hOn := hNext
  clear hNext
  try clear hnew
  try clear hS
  try simp only [Act.put, List.setIfInBounds_toArray, List.set_cons_zero, List.set_cons_succ]
  refine wpAnyH_ready (rs := [9]) (by kernel_rfl) (by simp) ?_
  refine AllReadyH.cons (by simp only [List.getElem?_toArray, List.getElem?_cons_succ, List.getElem?_cons_zero]; rfl) (fun Kz hKz => ?_) AllReadyH.nil
  go_simp
  try go_wp2_with fail
  (with_reducible refine made_step (t := 22) ?_)
  intro w5 hx5 hnew
  (try replace hz6 := Lib.hid (rowG hz6.out _ hnew))
  have hnb5 := hnb.out
  have hbb := argBB_two (h17.out.below hnew) (h3.out.below hnew) (by rw [hnb5]; exact hx5.out)
  replace hbb := Lib.hid hbb
  clear hx5 h3 h17 hnb5
  refine hKz.out _ _ (by first | exact hS | exact Below.trans hOn (Below.mono hnew (Below.size hOn))) (fun hNext => ?_)
  clear hKz Kz hOn
  have hOn := hNext
  clear hNext
  try clear hnew
  try clear hS
  try simp only [Act.put, List.setIfInBounds_toArray, List.set_cons_zero, List.set_cons_succ]
  refine wpAnyH_ready (rs := [10]) (by kernel_rfl) (by simp) ?_
  refine AllReadyH.cons (by simp only [List.getElem?_toArray, List.getElem?_cons_succ, List.getElem?_cons_zero]; rfl) (fun Kz hKz => ?_) AllReadyH.nil
  go_simp
  (with_reducible refine (hof.out _ _ (hk.out.below hOn) hbb.out (hK.out.below hOn) (hF.out.below hOn)).mono ?_)
  rintro e w7 ⟨rfl, hnew⟩
  (try replace hz6 := Lib.hid (rowG hz6.out _ hnew))
  clear hbb
  go_wp2_with fail
  refine hKz.out _ _ (by first | exact hS | exact Below.trans hOn (Below.mono hnew (Below.size hOn))) (fun hNext => ?_)
  clear hKz Kz hOn
  have hOn := hNext
  clear hNext
  try clear hnew
  try clear hS
  try simp only [Act.put, List.setIfInBounds_toArray, List.set_cons_zero, List.set_cons_succ]
  refine wpAnyH_ready (rs := [12]) (by kernel_rfl) (by simp) ?_
  refine AllReadyH.cons (by simp only [List.getElem?_toArray, List.getElem?_cons_succ, List.getElem?_cons_zero]; rfl) (fun Kz hKz => ?_) AllReadyH.nil
  rw [if_pos (by rfl)]
  (with_reducible refine wp_store_rowK 55 (.tmp 7) (.tmp 21) rfl _ zero32 D rfl rfl hz6 sD s32 sO ?_)
  intro w9 hU9
  have hS := Below.trans hOn (hU9.out.below hs6)
  have h9 := Lib.hid (harg.out _ _ hU9.out.here)
  clear hU9 hz6
  refine hKz.out _ _ (by first | exact hS | exact Below.trans hOn (Below.mono hnew (Below.size hOn))) (fun hNext => ?_)
  clear hKz Kz hOn
  have hOn := hNext
  clear hNext
  try clear hnew
  try clear hS
  try simp only [Act.put]
  refine wpAnyH_done (by kernel_rfl) ?_ _
  rotate_left
  refine AllReadyH.cons (by simp only [List.getElem?_toArray, List.getElem?_cons_succ, List.getElem?_cons_zero]; rfl) (fun Kz hKz => ?_) AllReadyH.nil
  go_simp
  try go_wp2_with fail
  (with_reducible refine made_step (t := 55) ?_)
  intro w6 hz6 hnew
  have hs6 := hOn.size
  (try replace hbb := Lib.hid (hbb.out.below hnew))
  (try replace h3 := Lib.hid (h3.out.below hnew))
  (try replace h17 := Lib.hid (h17.out.below hnew))
  refine hKz.out _ _ (by first | exact hS | exact Below.trans hOn (Below.mono hnew (Below.size hOn))) (fun hNext => ?_)
  clear hKz Kz hOn
  have hOn := hNext
  clear hNext
  try clear hnew
  try clear hS
  try simp only [Act.put, List.setIfInBounds_toArray, List.set_cons_zero, List.set_cons_succ]
  refine wpAnyH_ready (rs := [8]) (by kernel_rfl) (by simp) ?_
  refine AllReadyH.cons (by simp only [List.getElem?_toArray, List.getElem?_cons_succ, List.getElem?_cons_zero]; rfl) (fun Kz hKz => ?_) AllReadyH.nil
  go_simp
  (with_reducible refine (hln.out _).mono ?_)
  rintro e w3 ⟨v3, rfl, ho3, hnew⟩
  obtain ⟨a3, c3, rfl, h3, _⟩ := ho3.arg
  rw [hnb.out]
  (try replace hz6 := Lib.hid (rowG hz6.out _ hnew))
  (try replace h17 := Lib.hid (h17.out.below hnew))
  replace h3 := Lib.hid h3
  clear ho3
  go_wp2_with fail
  refine hKz.out _ _ (by first | exact hS | exact Below.trans hOn (Below.mono hnew (Below.size hOn))) (fun hNext => ?_)
  clear hKz Kz hOn
  have hOn := hNext
  clear hNext
  try clear hnew
  try clear hS
  try simp only [Act.put, List.setIfInBounds_toArray, List.set_cons_zero, List.set_cons_succ]
  refine wpAnyH_ready (rs := [9]) (by kernel_rfl) (by simp) ?_
  refine AllReadyH.cons (by simp only [List.getElem?_toArray, List.getElem?_cons_succ, List.getElem?_cons_zero]; rfl) (fun Kz hKz => ?_) AllReadyH.nil
  go_simp
  try go_wp2_with fail
  (with_reducible refine made_step (t := 22) ?_)
  intro w5 hx5 hnew
  (try replace hz6 := Lib.hid (rowG hz6.out _ hnew))
  have hnb5 := hnb.out
  have hbb := argBB_two (h17.out.below hnew) (h3.out.below hnew) (by rw [hnb5]; exact hx5.out)
  replace hbb := Lib.hid hbb
  clear hx5 h3 h17 hnb5
  refine hKz.out _ _ (by first | exact hS | exact Below.trans hOn (Below.mono hnew (Below.size hOn))) (fun hNext => ?_)
  clear hKz Kz hOn
  have hOn := hNext
  clear hNext
  try clear hnew
  try clear hS
  try simp only [Act.put, List.setIfInBounds_toArray, List.set_cons_zero, List.set_cons_succ]
  refine wpAnyH_ready (rs := [10]) (by kernel_rfl) (by simp) ?_
  refine AllReadyH.cons (by simp only [List.getElem?_toArray, List.getElem?_cons_succ, List.getElem?_cons_zero]; rfl) (fun Kz hKz => ?_) AllReadyH.nil
  go_simp
  (with_reducible refine (hof.out _ _ (hk.out.below hOn) hbb.out (hK.out.below hOn) (hF.out.below hOn)).mono ?_)
  rintro e w7 ⟨rfl, hnew⟩
  (try replace hz6 := Lib.hid (rowG hz6.out _ hnew))
  clear hbb
  go_wp2_with fail
  refine hKz.out _ _ (by first | exact hS | exact Below.trans hOn (Below.mono hnew (Below.size hOn))) (fun hNext => ?_)
  clear hKz Kz hOn
  have hOn := hNext
  clear hNext
  try clear hnew
  try clear hS
  try simp only [Act.put, List.setIfInBounds_toArray, List.set_cons_zero, List.set_cons_succ]
  refine wpAnyH_ready (rs := [12]) (by kernel_rfl) (by simp) ?_
  refine AllReadyH.cons (by simp only [List.getElem?_toArray, List.getElem?_cons_succ, List.getElem?_cons_zero]; rfl) (fun Kz hKz => ?_) AllReadyH.nil
  rw [if_pos (by rfl)]
  (with_reducible refine wp_store_rowK 55 (.tmp 7) (.tmp 21) rfl _ zero32 D rfl rfl hz6 sD s32 sO ?_)
  intro w9 hU9
  have hS := Below.trans hOn (hU9.out.below hs6)
  have h9 := Lib.hid (harg.out _ _ hU9.out.here)
  clear hU9 hz6
  refine hKz.out _ _ (by first | exact hS | exact Below.trans hOn (Below.mono hnew (Below.size hOn))) (fun hNext => ?_)
  clear hKz Kz hOn
  have hOn := hNext
  clear hNext
  try clear hnew
  try clear hS
  try simp only [Act.put]
  refine wpAnyH_done (by kernel_rfl) ?_ _
  rotate_left
  refine AllReadyH.cons (by simp only [List.getElem?_toArray, List.getElem?_cons_succ, List.getElem?_cons_zero]; rfl) (fun Kz hKz => ?_) ?_
  go_simp
  (with_reducible refine (hln.out _).mono ?_)
  rintro e w3 ⟨v3, rfl, ho3, hnew⟩
  obtain ⟨a3, c3, rfl, h3, _⟩ := ho3.arg
  rw [hnb.out]
  (try replace hz6 := Lib.hid (rowG hz6.out _ hnew))
  (try replace h17 := Lib.hid (h17.out.below hnew))
  replace h3 := Lib.hid h3
  clear ho3
  go_wp2_with fail
  refine hKz.out _ _ (by first | exact hS | exact Below.trans hOn (Below.mono hnew (Below.size hOn))) (fun hNext => ?_)
  clear hKz Kz hOn
  have hOn := hNext
  clear hNext
  try clear hnew
  try clear hS
  try simp only [Act.put, List.setIfInBounds_toArray, List.set_cons_zero, List.set_cons_succ]
  refine wpAnyH_ready (rs := [6, 11]) (by kernel_rfl) (by simp) ?_
  refine AllReadyH.cons (by simp only [List.getElem?_toArray, List.getElem?_cons_succ, List.getElem?_cons_zero]; rfl) (fun Kz hKz => ?_) ?_
  go_simp
  try go_wp2_with fail
  (with_reducible refine made_step (t := 5) ?_)
  intro w4 hx4 hnew
  (try replace hz6 := Lib.hid (rowG hz6.out _ hnew))
  (try replace h3 := Lib.hid (h3.out.below hnew))
  have h17 := Lib.hid (h17f.out _ _ hx4.out)
  clear hx4
  refine hKz.out _ _ (by first | exact hS | exact Below.trans hOn (Below.mono hnew (Below.size hOn))) (fun hNext => ?_)
  clear hKz Kz hOn
  have hOn := hNext
  clear hNext
  try clear hnew
  try clear hS
  try simp only [Act.put, List.setIfInBounds_toArray, List.set_cons_zero, List.set_cons_succ]
  refine wpAnyH_ready (rs := [9, 11]) (by kernel_rfl) (by simp) ?_
  refine AllReadyH.cons (by simp only [List.getElem?_toArray, List.getElem?_cons_succ, List.getElem?_cons_zero]; rfl) (fun Kz hKz => ?_) ?_
  go_simp
  try go_wp2_with fail
  (with_reducible refine made_step (t := 22) ?_)
  intro w5 hx5 hnew
  (try replace hz6 := Lib.hid (rowG hz6.out _ hnew))
  have hnb5 := hnb.out
  have hbb := argBB_two (h17.out.below hnew) (h3.out.below hnew) (by rw [hnb5]; exact hx5.out)
  replace hbb := Lib.hid hbb
  clear hx5 h3 h17 hnb5
  refine hKz.out _ _ (by first | exact hS | exact Below.trans hOn (Below.mono hnew (Below.size hOn))) (fun hNext => ?_)
  clear hKz Kz hOn
  have hOn := hNext
  clear hNext
  try clear hnew
  try clear hS
  try simp only [Act.put, List.setIfInBounds_toArray, List.set_cons_zero, List.set_cons_succ]
  refine wpAnyH_ready (rs := [10, 11]) (by kernel_rfl) (by simp) ?_
  refine AllReadyH.cons (by simp only [List.getElem?_toArray, List.getElem?_cons_succ, List.getElem?_cons_zero]; rfl) (fun Kz hKz => ?_) ?_
  go_simp
  (with_reducible refine (hof.out _ _ (hk.out.below hOn) hbb.out (hK.out.below hOn) (hF.out.below hOn)).mono ?_)
  rintro e w7 ⟨rfl, hnew⟩
  (try replace hz6 := Lib.hid (rowG hz6.out _ hnew))
  clear hbb
  go_wp2_with fail
  refine hKz.out _ _ (by first | exact hS | exact Below.trans hOn (Below.mono hnew (Below.size hOn))) (fun hNext => ?_)
  clear hKz Kz hOn
  have hOn := hNext
  clear hNext
  try clear hnew
  try clear hS
  try simp only [Act.put, List.setIfInBounds_toArray, List.set_cons_zero, List.set_cons_succ]
  refine wpAnyH_ready (rs := [11]) (by kernel_rfl) (by simp) ?_
  refine AllReadyH.cons (by simp only [List.getElem?_toArray, List.getElem?_cons_succ, List.getElem?_cons_zero]; rfl) (fun Kz hKz => ?_) AllReadyH.nil
  go_simp
  try go_wp2_with fail
  (with_reducible refine made_step (t := 55) ?_)
  intro w6 hz6 hnew
  have hs6 := hOn.size
  (try replace hbb := Lib.hid (hbb.out.below hnew))
  (try replace h3 := Lib.hid (h3.out.below hnew))
  (try replace h17 := Lib.hid (h17.out.below hnew))
  refine hKz.out _ _ (by first | exact hS | exact Below.trans hOn (Below.mono hnew (Below.size hOn))) (fun hNext => ?_)
  clear hKz Kz hOn
  have hOn := hNext
  clear hNext
  try clear hnew
  try clear hS
  try simp only [Act.put, List.setIfInBounds_toArray, List.set_cons_zero, List.set_cons_succ]
  refine wpAnyH_ready (rs := [12]) (by kernel_rfl) (by simp) ?_
  refine AllReadyH.cons (by simp only [List.getElem?_toArray, List.getElem?_cons_succ, List.getElem?_cons_zero]; rfl) (fun Kz hKz => ?_) AllReadyH.nil
  rw [if_pos (by rfl)]
  (with_reducible refine wp_store_rowK 55 (.tmp 7) (.tmp 21) rfl _ zero32 D rfl rfl hz6 sD s32 sO ?_)
  intro w9 hU9
  have hS := Below.trans hOn (hU9.out.below hs6)
  have h9 := Lib.hid (harg.out _ _ hU9.out.here)
  clear hU9 hz6
  refine hKz.out _ _ (by first | exact hS | exact Below.trans hOn (Below.mono hnew (Below.size hOn))) (fun hNext => ?_)
  clear hKz Kz hOn
  have hOn := hNext
  clear hNext
  try clear hnew
  try clear hS
  try simp only [Act.put]
  refine wpAnyH_done (by kernel_rfl) ?_ _
  rotate_left
  refine AllReadyH.cons (by simp only [List.getElem?_toArray, List.getElem?_cons_succ, List.getElem?_cons_zero]; rfl) (fun Kz hKz => ?_) AllReadyH.nil
  go_simp
  try go_wp2_with fail
  (with_reducible refine made_step (t := 55) ?_)
  intro w6 hz6 hnew
  have hs6 := hOn.size
  (try replace hbb := Lib.hid (hbb.out.below hnew))
  (try replace h3 := Lib.hid (h3.out.below hnew))
  (try replace h17 := Lib.hid (h17.out.below hnew))
  refine hKz.out _ _ (by first | exact hS | exact Below.trans hOn (Below.mono hnew (Below.size hOn))) (fun hNext => ?_)
  clear hKz Kz hOn
  have hOn := hNext
  clear hNext
  try clear hnew
  try clear hS
  try simp only [Act.put, List.setIfInBounds_toArray, List.set_cons_zero, List.set_cons_succ]
  refine wpAnyH_ready (rs := [10]) (by kernel_rfl) (by simp) ?_
  refine AllReadyH.cons (by simp only [List.getElem?_toArray, List.getElem?_cons_succ, List.getElem?_cons_zero]; rfl) (fun Kz hKz => ?_) AllReadyH.nil
  go_simp
  (with_reducible refine (hof.out _ _ (hk.out.below hOn) hbb.out (hK.out.below hOn) (hF.out.below hOn)).mono ?_)
  rintro e w7 ⟨rfl, hnew⟩
  (try replace hz6 := Lib.hid (rowG hz6.out _ hnew))
  clear hbb
  go_wp2_with fail
  refine hKz.out _ _ (by first | exact hS | exact Below.trans hOn (Below.mono hnew (Below.size hOn))) (fun hNext => ?_)
  clear hKz Kz hOn
  have hOn := hNext
  clear hNext
  try clear hnew
  try clear hS
  try simp only [Act.put, List.setIfInBounds_toArray, List.set_cons_zero, List.set_cons_succ]
  refine wpAnyH_ready (rs := [12]) (by kernel_rfl) (by simp) ?_
  refine AllReadyH.cons (by simp only [List.getElem?_toArray, List.getElem?_cons_succ, List.getElem?_cons_zero]; rfl) (fun Kz hKz => ?_) AllReadyH.nil
  rw [if_pos (by rfl)]
  (with_reducible refine wp_store_rowK 55 (.tmp 7) (.tmp 21) rfl _ zero32 D rfl rfl hz6 sD s32 sO ?_)
  intro w9 hU9
  have hS := Below.trans hOn (hU9.out.below hs6)
  have h9 := Lib.hid (harg.out _ _ hU9.out.here)
  clear hU9 hz6
  refine hKz.out _ _ (by first | exact hS | exact Below.trans hOn (Below.mono hnew (Below.size hOn))) (fun hNext => ?_)
  clear hKz Kz hOn
  have hOn := hNext
  clear hNext
  try clear hnew
  try clear hS
  try simp only [Act.put]
  refine wpAnyH_done (by kernel_rfl) ?_ _
  rotate_left
  refine AllReadyH.cons (by simp only [List.getElem?_toArray, List.getElem?_cons_succ, List.getElem?_cons_zero]; rfl) (fun Kz hKz => ?_) AllReadyH.nil
  go_simp
  try go_wp2_with fail
  (with_reducible refine made_step (t := 55) ?_)
  intro w6 hz6 hnew
  have hs6 := hOn.size
  (try replace hbb := Lib.hid (hbb.out.below hnew))
  (try replace h3 := Lib.hid (h3.out.below hnew))
  (try replace h17 := Lib.hid (h17.out.below hnew))
  refine hKz.out _ _ (by first | exact hS | exact Below.trans hOn (Below.mono hnew (Below.size hOn))) (fun hNext => ?_)
  clear hKz Kz hOn
  have hOn := hNext
  clear hNext
  try clear hnew
  try clear hS
  try simp only [Act.put, List.setIfInBounds_toArray, List.set_cons_zero, List.set_cons_succ]
  refine wpAnyH_ready (rs := [9]) (by kernel_rfl) (by simp) ?_
  refine AllReadyH.cons (by simp only [List.getElem?_toArray, List.getElem?_cons_succ, List.getElem?_cons_zero]; rfl) (fun Kz hKz => ?_) AllReadyH.nil
  go_simp
  try go_wp2_with fail
  (with_reducible refine made_step (t := 22) ?_)
  intro w5 hx5 hnew
  (try replace hz6 := Lib.hid (rowG hz6.out _ hnew))
  have hnb5 := hnb.out
  have hbb := argBB_two (h17.out.below hnew) (h3.out.below hnew) (by rw [hnb5]; exact hx5.out)
  replace hbb := Lib.hid hbb
  clear hx5 h3 h17 hnb5
  refine hKz.out _ _ (by first | exact hS | exact Below.trans hOn (Below.mono hnew (Below.size hOn))) (fun hNext => ?_)
  clear hKz Kz hOn
  have hOn := hNext
  clear hNext
  try clear hnew
  try clear hS
  try simp only [Act.put, List.setIfInBounds_toArray, List.set_cons_zero, List.set_cons_succ]
  refine wpAnyH_ready (rs := [10]) (by kernel_rfl) (by simp) ?_
  refine AllReadyH.cons (by simp only [List.getElem?_toArray, List.getElem?_cons_succ, List.getElem?_cons_zero]; rfl) (fun Kz hKz => ?_) AllReadyH.nil
  go_simp
  (with_reducible refine (hof.out _ _ (hk.out.below hOn) hbb.out (hK.out.below hOn) (hF.out.below hOn)).mono ?_)
  rintro e w7 ⟨rfl, hnew⟩
  (try replace hz6 := Lib.hid (rowG hz6.out _ hnew))
  clear hbb
  go_wp2_with fail
  refine hKz.out _ _ (by first | exact hS | exact Below.trans hOn (Below.mono hnew (Below.size hOn))) (fun hNext => ?_)
  clear hKz Kz hOn
  have hOn := hNext
  clear hNext
  try clear hnew
  try clear hS
  try simp only [Act.put, List.setIfInBounds_toArray, List.set_cons_zero, List.set_cons_succ]
  refine wpAnyH_ready (rs := [12]) (by kernel_rfl) (by simp) ?_
  refine AllReadyH.cons (by simp only [List.getElem?_toArray, List.getElem?_cons_succ, List.getElem?_cons_zero]; rfl) (fun Kz hKz => ?_) AllReadyH.nil
  rw [if_pos (by rfl)]
  (with_reducible refine wp_store_rowK 55 (.tmp 7) (.tmp 21) rfl _ zero32 D rfl rfl hz6 sD s32 sO ?_)
  intro w9 hU9
  have hS := Below.trans hOn (hU9.out.below hs6)
  have h9 := Lib.hid (harg.out _ _ hU9.out.here)
  clear hU9 hz6
  refine hKz.out _ _ (by first | exact hS | exact Below.trans hOn (Below.mono hnew (Below.size hOn))) (fun hNext => ?_)
  clear hKz Kz hOn
  have hOn := hNext
  clear hNext
  try clear hnew
  try clear hS
  try simp only [Act.put]
  refine wpAnyH_done (by kernel_rfl) ?_ _
  rotate_left
  refine AllReadyH.cons (by simp only [List.getElem?_toArray, List.getElem?_cons_succ, List.getElem?_cons_zero]; rfl) (fun Kz hKz => ?_) AllReadyH.nil
  go_simp
  try go_wp2_with fail
  (with_reducible refine made_step (t := 55) ?_)
  intro w6 hz6 hnew
  have hs6 := hOn.size
  (try replace hbb := Lib.hid (hbb.out.below hnew))
  (try replace h3 := Lib.hid (h3.out.below hnew))
  (try replace h17 := Lib.hid (h17.out.below hnew))
  refine hKz.out _ _ (by first | exact hS | exact Below.trans hOn (Below.mono hnew (Below.size hOn))) (fun hNext => ?_)
  clear hKz Kz hOn
  have hOn := hNext
  clear hNext
  try clear hnew
  try clear hS
  try simp only [Act.put, List.setIfInBounds_toArray, List.set_cons_zero, List.set_cons_succ]
  refine wpAnyH_ready (rs := [6]) (by kernel_rfl) (by simp) ?_
  refine AllReadyH.cons (by simp only [List.getElem?_toArray, List.getElem?_cons_succ, List.getElem?_cons_zero]; rfl) (fun Kz hKz => ?_) AllReadyH.nil
  go_simp
  try go_wp2_with fail
  (with_reducible refine made_step (t := 5) ?_)
  intro w4 hx4 hnew
  (try replace hz6 := Lib.hid (rowG hz6.out _ hnew))
  (try replace h3 := Lib.hid (h3.out.below hnew))
  have h17 := Lib.hid (h17f.out _ _ hx4.out)
  clear hx4
  refine hKz.out _ _ (by first | exact hS | exact Below.trans hOn (Below.mono hnew (Below.size hOn))) (fun hNext => ?_)
  clear hKz Kz hOn
  have hOn := hNext
  clear hNext
  try clear hnew
  try clear hS
  try simp only [Act.put, List.setIfInBounds_toArray, List.set_cons_zero, List.set_cons_succ]
  refine wpAnyH_ready (rs := [9]) (by kernel_rfl) (by simp) ?_
  refine AllReadyH.cons (by simp only [List.getElem?_toArray, List.getElem?_cons_succ, List.getElem?_cons_zero]; rfl) (fun Kz hKz => ?_) AllReadyH.nil
  go_simp
  try go_wp2_with fail
  (with_reducible refine made_step (t := 22) ?_)
  intro w5 hx5 hnew
  (try replace hz6 := Lib.hid (rowG hz6.out _ hnew))
  have hnb5 := hnb.out
  have hbb := argBB_two (h17.out.below hnew) (h3.out.below hnew) (by rw [hnb5]; exact hx5.out)
  replace hbb := Lib.hid hbb
  clear hx5 h3 h17 hnb5
  refine hKz.out _ _ (by first | exact hS | exact Below.trans hOn (Below.mono hnew (Below.size hOn))) (fun hNext => ?_)
  clear hKz Kz hOn
  have hOn := hNext
  clear hNext
  try clear hnew
  try clear hS
  try simp only [Act.put, List.setIfInBounds_toArray, List.set_cons_zero, List.set_cons_succ]
  refine wpAnyH_ready (rs := [10]) (by kernel_rfl) (by simp) ?_
  refine AllReadyH.cons (by simp only [List.getElem?_toArray, List.getElem?_cons_succ, List.getElem?_cons_zero]; rfl) (fun Kz hKz => ?_) AllReadyH.nil
  go_simp
  (with_reducible refine (hof.out _ _ (hk.out.below hOn) hbb.out (hK.out.below hOn) (hF.out.below hOn)).mono ?_)
  rintro e w7 ⟨rfl, hnew⟩
  (try replace hz6 := Lib.hid (rowG hz6.out _ hnew))
  clear hbb
  go_wp2_with fail
  refine hKz.out _ _ (by first | exact hS | exact Below.trans hOn (Below.mono hnew (Below.size hOn))) (fun hNext => ?_)
  clear hKz Kz hOn
  have hOn := hNext
  clear hNext
  try clear hnew
  try clear hS
  try simp only [Act.put, List.setIfInBounds_toArray, List.set_cons_zero, List.set_cons_succ]
  refine wpAnyH_ready (rs := [12]) (by kernel_rfl) (by simp) ?_
  refine AllReadyH.cons (by simp only [List.getElem?_toArray, List.getElem?_cons_succ, List.getElem?_cons_zero]; rfl) (fun Kz hKz => ?_) AllReadyH.nil
  rw [if_pos (by rfl)]
  (with_reducible refine wp_store_rowK 55 (.tmp 7) (.tmp 21) rfl _ zero32 D rfl rfl hz6 sD s32 sO ?_)
  intro w9 hU9
  have hS := Below.trans hOn (hU9.out.below hs6)
  have h9 := Lib.hid (harg.out _ _ hU9.out.here)
  clear hU9 hz6
  refine hKz.out _ _ (by first | exact hS | exact Below.trans hOn (Below.mono hnew (Below.size hOn))) (fun hNext => ?_)
  clear hKz Kz hOn
  have hOn := hNext
  clear hNext
  try clear hnew
  try clear hS
  try simp only [Act.put]
  refine wpAnyH_done (by kernel_rfl) ?_ _
  rotate_left
  refine AllReadyH.cons (by simp only [List.getElem?_toArray, List.getElem?_cons_succ, List.getElem?_cons_zero]; rfl) (fun Kz hKz => ?_) AllReadyH.nil
  go_simp
  try go_wp2_with fail
  (with_reducible refine made_step (t := 55) ?_)
  intro w6 hz6 hnew
  have hs6 := hOn.size
  (try replace hbb := Lib.hid (hbb.out.below hnew))
  (try replace h3 := Lib.hid (h3.out.below hnew))
  (try replace h17 := Lib.hid (h17.out.below hnew))
  refine hKz.out _ _ (by first | exact hS | exact Below.trans hOn (Below.mono hnew (Below.size hOn))) (fun hNext => ?_)
  clear hKz Kz hOn
  have hOn := hNext
  clear hNext
  try clear hnew
  try clear hS
  try simp only [Act.put, List.setIfInBounds_toArray, List.set_cons_zero, List.set_cons_succ]
  refine wpAnyH_ready (rs := [6, 8]) (by kernel_rfl) (by simp) ?_
  refine AllReadyH.cons (by simp only [List.getElem?_toArray, List.getElem?_cons_succ, List.getElem?_cons_zero]; rfl) (fun Kz hKz => ?_) ?_
  go_simp
  try go_wp2_with fail
  (with_reducible refine made_step (t := 5) ?_)
  intro w4 hx4 hnew
  (try replace hz6 := Lib.hid (rowG hz6.out _ hnew))
  (try replace h3 := Lib.hid (h3.out.below hnew))
  have h17 := Lib.hid (h17f.out _ _ hx4.out)
  clear hx4
  refine hKz.out _ _ (by first | exact hS | exact Below.trans hOn (Below.mono hnew (Below.size hOn))) (fun hNext => ?_)
  clear hKz Kz hOn
  have hOn := hNext
  clear hNext
  try clear hnew
  try clear hS
  try simp only [Act.put, List.setIfInBounds_toArray, List.set_cons_zero, List.set_cons_succ]
  refine wpAnyH_ready (rs := [8]) (by kernel_rfl) (by simp) ?_
  refine AllReadyH.cons (by simp only [List.getElem?_toArray, List.getElem?_cons_succ, List.getElem?_cons_zero]; rfl) (fun Kz hKz => ?_) AllReadyH.nil
  go_simp
  (with_reducible refine (hln.out _).mono ?_)
  rintro e w3 ⟨v3, rfl, ho3, hnew⟩
  obtain ⟨a3, c3, rfl, h3, _⟩ := ho3.arg
  rw [hnb.out]
  (try replace hz6 := Lib.hid (rowG hz6.out _ hnew))
  (try replace h17 := Lib.hid (h17.out.below hnew))
  replace h3 := Lib.hid h3
  clear ho3
  go_wp2_with fail
  refine hKz.out _ _ (by first | exact hS | exact Below.trans hOn (Below.mono hnew (Below.size hOn))) (fun hNext => ?_)
  clear hKz Kz hOn
  have hOn := hNext
  clear hNext
  try clear hnew
  try clear hS
  try simp only [Act.put, List.setIfInBounds_toArray, List.set_cons_zero, List.set_cons_succ]
  refine wpAnyH_ready (rs := [9]) (by kernel_rfl) (by simp) ?_
  refine AllReadyH.cons (by simp only [List.getElem?_toArray, List.getElem?_cons_succ, List.getElem?_cons_zero]; rfl) (fun Kz hKz => ?_) AllReadyH.nil
  go_simp
  try go_wp2_with fail
  (with_reducible refine made_step (t := 22) ?_)
  intro w5 hx5 hnew
  (try replace hz6 := Lib.hid (rowG hz6.out _ hnew))
  have hnb5 := hnb.out
  have hbb := argBB_two (h17.out.below hnew) (h3.out.below hnew) (by rw [hnb5]; exact hx5.out)
  replace hbb := Lib.hid hbb
  clear hx5 h3 h17 hnb5
  refine hKz.out _ _ (by first | exact hS | exact Below.trans hOn (Below.mono hnew (Below.size hOn))) (fun hNext => ?_)
  clear hKz Kz hOn
  have hOn := hNext
  clear hNext
  try clear hnew
  try clear hS
  try simp only [Act.put, List.setIfInBounds_toArray, List.set_cons_zero, List.set_cons_succ]
  refine wpAnyH_ready (rs := [10]) (by kernel_rfl) (by simp) ?_
  refine AllReadyH.cons (by simp only [List.getElem?_toArray, List.getElem?_cons_succ, List.getElem?_cons_zero]; rfl) (fun Kz hKz => ?_) AllReadyH.nil
  go_simp
  (with_reducible refine (hof.out _ _ (hk.out.below hOn) hbb.out (hK.out.below hOn) (hF.out.below hOn)).mono ?_)
  rintro e w7 ⟨rfl, hnew⟩
  (try replace hz6 := Lib.hid (rowG hz6.out _ hnew))
  clear hbb
  go_wp2_with fail
  refine hKz.out _ _ (by first | exact hS | exact Below.trans hOn (Below.mono hnew (Below.size hOn))) (fun hNext => ?_)
  clear hKz Kz hOn
  have hOn := hNext
  clear hNext
  try clear hnew
  try clear hS
  try simp only [Act.put, List.setIfInBounds_toArray, List.set_cons_zero, List.set_cons_succ]
  refine wpAnyH_ready (rs := [12]) (by kernel_rfl) (by simp) ?_
  refine AllReadyH.cons (by simp only [List.getElem?_toArray, List.getElem?_cons_succ, List.getElem?_cons_zero]; rfl) (fun Kz hKz => ?_) AllReadyH.nil
  rw [if_pos (by rfl)]
  (with_reducible refine wp_store_rowK 55 (.tmp 7) (.tmp 21) rfl _ zero32 D rfl rfl hz6 sD s32 sO ?_)
  intro w9 hU9
  have hS := Below.trans hOn (hU9.out.below hs6)
  have h9 := Lib.hid (harg.out _ _ hU9.out.here)
  clear hU9 hz6
  refine hKz.out _ _ (by first | exact hS | exact Below.trans hOn (Below.mono hnew (Below.size hOn))) (fun hNext => ?_)
  clear hKz Kz hOn
  have hOn := hNext
  clear hNext
  try clear hnew
  try clear hS
  try simp only [Act.put]
  refine wpAnyH_done (by kernel_rfl) ?_ _
  rotate_left
  refine AllReadyH.cons (by simp only [List.getElem?_toArray, List.getElem?_cons_succ, List.getElem?_cons_zero]; rfl) (fun Kz hKz => ?_) AllReadyH.nil
  go_simp
  (with_reducible refine (hln.out _).mono ?_)
  rintro e w3 ⟨v3, rfl, ho3, hnew⟩
  obtain ⟨a3, c3, rfl, h3, _⟩ := ho3.arg
  rw [hnb.out]
  (try replace hz6 := Lib.hid (rowG hz6.out _ hnew))
  (try replace h17 := Lib.hid (h17.out.below hnew))
  replace h3 := Lib.hid h3
  clear ho3
  go_wp2_with fail
  refine hKz.out _ _ (by first | exact hS | exact Below.trans hOn (Below.mono hnew (Below.size hOn))) (fun hNext => ?_)
  clear hKz Kz hOn
  have hOn := hNext
  clear hNext
  try clear hnew
  try clear hS
  try simp only [Act.put, List.setIfInBounds_toArray, List.set_cons_zero, List.set_cons_succ]
  refine wpAnyH_ready (rs := [6]) (by kernel_rfl) (by simp) ?_
  refine AllReadyH.cons (by simp only [List.getElem?_toArray, List.getElem?_cons_succ, List.getElem?_cons_zero]; rfl) (fun Kz hKz => ?_) AllReadyH.nil
  go_simp
  try go_wp2_with fail
  (with_reducible refine made_step (t := 5) ?_)
  intro w4 hx4 hnew
  (try replace hz6 := Lib.hid (rowG hz6.out _ hnew))
  (try replace h3 := Lib.hid (h3.out.below hnew))
  have h17 := Lib.hid (h17f.out _ _ hx4.out)
  clear hx4
  refine hKz.out _ _ (by first | exact hS | exact Below.trans hOn (Below.mono hnew (Below.size hOn))) (fun hNext => ?_)
  clear hKz Kz hOn
  have hOn := hNext
  clear hNext
  try clear hnew
  try clear hS
  try simp only [Act.put, List.setIfInBounds_toArray, List.set_cons_zero, List.set_cons_succ]
  refine wpAnyH_ready (rs := [9]) (by kernel_rfl) (by simp) ?_
  refine AllReadyH.cons (by simp only [List.getElem?_toArray, List.getElem?_cons_succ, List.getElem?_cons_zero]; rfl) (fun Kz hKz => ?_) AllReadyH.nil
  go_simp
  try go_wp2_with fail
  (with_reducible refine made_step (t := 22) ?_)
  intro w5 hx5 hnew
  (try replace hz6 := Lib.hid (rowG hz6.out _ hnew))
  have hnb5 := hnb.out
  have hbb := argBB_two (h17.out.below hnew) (h3.out.below hnew) (by rw [hnb5]; exact hx5.out)
  replace hbb := Lib.hid hbb
  clear hx5 h3 h17 hnb5
  refine hKz.out _ _ (by first | exact hS | exact Below.trans hOn (Below.mono hnew (Below.size hOn))) (fun hNext => ?_)
  clear hKz Kz hOn
  have hOn := hNext
  clear hNext
  try clear hnew
  try clear hS
  try simp only [Act.put, List.setIfInBounds_toArray, List.set_cons_zero, List.set_cons_succ]
  refine wpAnyH_ready (rs := [10]) (by kernel_rfl) (by simp) ?_
  refine AllReadyH.cons (by simp only [List.getElem?_toArray, List.getElem?_cons_succ, List.getElem?_cons_zero]; rfl) (fun Kz hKz => ?_) AllReadyH.nil
  go_simp
  (with_reducible refine (hof.out _ _ (hk.out.below hOn) hbb.out (hK.out.below hOn) (hF.out.below hOn)).mono ?_)
  rintro e w7 ⟨rfl, hnew⟩
  (try replace hz6 := Lib.hid (rowG hz6.out _ hnew))
  clear hbb
  go_wp2_with fail
  refine hKz.out _ _ (by first | exact hS | exact Below.trans hOn (Below.mono hnew (Below.size hOn))) (fun hNext => ?_)
  clear hKz Kz hOn
  have hOn := hNext
  clear hNext
  try clear hnew
  try clear hS
  try simp only [Act.put, List.setIfInBounds_toArray, List.set_cons_zero, List.set_cons_succ]
  refine wpAnyH_ready (rs := [12]) (by kernel_rfl) (by simp) ?_
  refine AllReadyH.cons (by simp only [List.getElem?_toArray, List.getElem?_cons_succ, List.getElem?_cons_zero]; rfl) (fun Kz hKz => ?_) AllReadyH.nil
  rw [if_pos (by rfl)]
  (with_reducible refine wp_store_rowK 55 (.tmp 7) (.tmp 21) rfl _ zero32 D rfl rfl hz6 sD s32 sO ?_)
  intro w9 hU9
  have hS := Below.trans hOn (hU9.out.below hs6)
  have h9 := Lib.hid (harg.out _ _ hU9.out.here)
  clear hU9 hz6
  refine hKz.out _ _ (by first | exact hS | exact Below.trans hOn (Below.mono hnew (Below.size hOn))) (fun hNext => ?_)
  clear hKz Kz hOn
  have hOn := hNext
  clear hNext
  try clear hnew
  try clear hS
  try simp only [Act.put]
  refine wpAnyH_done (by kernel_rfl) ?_ _
  all_goals
    have hb9 := Lib.hid hOn
    have k2 := kc2 _ hOn
    clear hOn kc0 kc2
    go_wp2_with fail
    go_loop [8, 10, 24] (fun x _ j => ∃ k : Nat, k ≤ 8 ∧ j = .int .i64 k ∧ x = .int .u64 ((beNat T k : Nat) : Int)) (fun _ _ j => 8 - (intOf j).toNat)
    case atStart => exact ⟨0, Nat.zero_le _, rfl, rfl⟩
    case round =>
      obtain ⟨k, hk, rfl, rfl⟩ := hrel
      by_cases hlt : k < 8
      · obtain ⟨b1, o1, hb1, hc⟩ := h9.out.row k (by rw [hlen.out]; exact hlt)
        cases hb1
        rw [show T.getD k 0 = cf T k from rfl, Nat.zero_add] at hc
        have hk8 : (k : Int) < 8 := by omega
        have hx : beNat T k < 72057594037927936 := Nat.lt_of_lt_of_le (beNat_lt T k) (Nat.le_trans (Nat.pow_le_pow_right (by omega) (show k ≤ 7 by omega)) (by decide))
        have hor := Lib.hid (or_byte64w (beNat T k) (cf T k) hx)
        have hnx := Lib.hid (show beNat T (k + 1) = beNat T k * 256 + (cf T k).toNat from rfl)
        replace hx := Lib.hid hx
        generalize cf T k = c at *
        generalize beNat T k = x at *
        go_wp2_with fail
        exact ⟨⟨k + 1, by omega, by go_num, by rw [hor.out, hnx.out]⟩, by simp [intOf]; omega⟩
      · obtain rfl : k = 8 := by omega
        have hxr := hxm.out (beNat T 8)
        rw [← hrd.out] at hxr
        clear hrd
        generalize beNat T 8 = x at *
        go_wp2_with fail
        go_ret
        exact ⟨rfl, hb9.out⟩

end Go.Proofs.YtmngcnhnpfnloaaDoor
