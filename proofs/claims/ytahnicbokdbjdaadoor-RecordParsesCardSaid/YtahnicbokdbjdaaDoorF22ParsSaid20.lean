/- record.Bytes of alive's record; alive; the law RecordWords. -/
import Derived.Test.YtahnicbokdbjdaaDoorF4ParsSaid20
import Derived.Test.YtahnicbokdbjdaaDoorF11ParsSaid20
import Derived.Test.YtahnicbokdbjdaaDoorF21ParsSaid20
import Derived.Test.YtahnicbokdbjdaaDoorF20ParsSaid20
namespace Go.Proofs.YtahnicbokdbjdaaDoor
open Go.RowKit

theorem rowG {w w' : World} {b : Nat} {o : Obj} (h : w.heap[b]? = some o) (hg : Grown w w') : w'.heap[b]? = some o := (hg.block b (block_lt h)).trans h
theorem keepR {a b : World} {C : World → Prop} (k : ∀ W, Grown a W → C W) (h : Grown a b) : ∀ W, Grown b W → C W := fun W hW => k W (Grown.trans h hW)
theorem ownB_one {base g : Nat} {w : World} {x : UInt8} (h : w.heap[g]? = some (.cells #[.int .u8 (x.toNat : Int)] 5 (0, 0))) (hg : base ≤ g) : OwnB base w (.slice (some ⟨g, 0, none⟩) 1 1) [x] :=
  ⟨rfl, .inr ⟨g, 1, #[.int .u8 (x.toNat : Int)], rfl, hg, h, Nat.le_refl _, by unfold maxLen; omega, rfl, rfl⟩⟩
theorem argB_one {g : Nat} {w : World} {x : UInt8} (h : w.heap[g]? = some (.cells #[.int .u8 (x.toNat : Int)] 5 (0, 0))) : ArgB w (some ⟨g, 0, none⟩) 1 [x] := by
  obtain ⟨a, c, e, h2, _⟩ := (ownB_one (base := 0) h (Nat.zero_le _)).arg
  cases e
  exact h2
theorem rows4 {w : World} {B : Nat} {p0 p1 p2 p3 : List UInt8} {a0 a1 a2 a3 : Option Addr} {c0 c1 c2 c3 l0 l1 l2 l3 : Nat} (hB : w.heap[B]? = some (.cells #[.slice a0 l0 c0, .slice a1 l1 c1, .slice a2 l2 c2, .slice a3 l3 c3] 36 (0, 0)))
    (e0 : p0.length = l0) (e1 : p1.length = l1) (e2 : p2.length = l2) (e3 : p3.length = l3) (h0 : ArgB w a0 c0 p0) (h1 : ArgB w a1 c1 p1) (h2 : ArgB w a2 c2 p2) (h3 : ArgB w a3 c3 p3) : RowsAt w B [p0, p1, p2, p3] := by
  intro k hk
  match k, hk with
  | 0, _ => exact ⟨a0, c0, by rw [cell_of_block hB]; show some (Value.slice a0 l0 c0) = _; rw [← e0]; rfl, h0⟩
  | 1, _ => exact ⟨a1, c1, by rw [cell_of_block hB]; show some (Value.slice a1 l1 c1) = _; rw [← e1]; rfl, h1⟩
  | 2, _ => exact ⟨a2, c2, by rw [cell_of_block hB]; show some (Value.slice a2 l2 c2) = _; rw [← e2]; rfl, h2⟩
  | 3, _ => exact ⟨a3, c3, by rw [cell_of_block hB]; show some (Value.slice a3 l3 c3) = _; rw [← e3]; rfl, h3⟩

theorem concat4 (b : Nat) (p0 p1 p2 p3 : List UInt8) (w : World) (hA : RowsAt w b [p0, p1, p2, p3]) (e0 : p0.length = 9) (e1 : p1.length = 8) (e2 : p2.length = 1) (e3 : p3.length = 8) :
    Calls Tryd.prog 20 #[.slice (some ⟨b, 0, none⟩) 4 4] w fun e w' => ∃ a c, e = .returned (.slice a 26 c) ∧ Below w.heap.size w w' := by
  refine (concatL_any b [p0, p1, p2, p3] w hA (by simp) (by simp [e0, e1, e2, e3]) (by simp [e0, e1, e2, e3])).mono ?_
  rintro e w' ⟨v, rfl, ho, hb⟩
  obtain ⟨a, c, rfl, _⟩ := ho.arg
  have hfl : [p0, p1, p2, p3].flatten.length = 26 := by simp [e0, e1, e2, e3]
  exact ⟨a, c, by rw [hfl], hb⟩

set_option maxRecDepth 100000 in
set_option maxHeartbeats 2000000 in
theorem bytes_rec (w : World) : Calls Tryd.prog 10 #[.agg (recV 3 1)] w fun e w' => ∃ a c, e = .returned (.tuple #[.slice a 26 c, .nilIface]) ∧ Below w.heap.size w w' := by
  have hs := recV_size 3 1
  obtain ⟨r0, r1, r2, r3, r4, r5, r6, r7⟩ := rec_at 3 1
  have hck := Lib.hid (fun w => check_rec w)
  have hsz : (Tryd.prog.info? 31).map (·.size) = some (recV 3 1).size := by kernel_rfl
  have hcf : ∀ (W : World) (b : Nat), W.heap[b]? = some (.cells (recV 3 1) 31 (0, 0)) → ∀ W', Grown W W' → W'.cell? ⟨b, 0, none⟩ = some (.int .i64 3) ∧ W'.cell? ⟨b, 1, none⟩ = some (.int .i64 0) ∧ W'.cell? ⟨b, 2, none⟩ = some (.int .i64 0) ∧ W'.cell? ⟨b, 76, none⟩ = some (.int .i64 1) ∧ W'.cell? ⟨b, 77, none⟩ = some (.int .i64 0) := by
    intro W b h W' hW
    have := rowG h hW
    refine ⟨?_, ?_, ?_, ?_, ?_⟩ <;> (rw [cell_of_block this]; rfl)
  have hln := Lib.hid (fun W => lnum_any 0 W (by omega) (by omega))
  have hnb := Lib.hid (numB_length 0)
  generalize hR : recV 3 1 = R at *
  replace hR := Lib.hid hR
  replace hcf := Lib.hid hcf
  have hrow := Lib.hid (heap_alloc_new w (.cells R 31))
  have hb := Lib.hid (show Below w.heap.size w (w.alloc (.cells R 31)) from (Below.refl _ _).alloc (Nat.le_refl _) _)
  have hzc := Tryd.underlying31
  generalize numB 0 = N0 at *
  go_enter Tryd.func10, Tryd.ntmps10
  go_wp2_with (with_reducible refine wpList_load_row rfl 31 (.tmp 1) rfl w.heap.size R _ rfl hrow hzc rfl hsz ?_)
  with_reducible refine (hck.out _).mono ?_
  rintro e w2 ⟨rfl, hnew⟩
  have hrow2 := Lib.hid ((hnew.block _ (block_lt hrow.out)).trans hrow.out)
  have hb2 := Lib.hid (hb.out.trans (hnew.mono hb.out.size))
  clear hnew hrow hb hck
  go_wp2_with fail
  have k0 := fun W h => (hcf.out _ _ hrow2.out W h).1
  have k1 := fun W h => (hcf.out _ _ hrow2.out W h).2.1
  have hdr : Hid (Grown w2 w2.drew) := Lib.hid (Grown.drew (Grown.refl w2))
  refine wp_region_held_drew (S := (Grown w2)) (by kernel_rfl) hdr.out (fun hOn => ?_)
  generalize World.drew w2 = wd at *
  refine wpAnyH_take (i := 0) (v := ?_) (by simp only [List.getElem?_toArray, List.getElem?_cons_zero]; rfl) (by kernel_rfl) (by kernel_rfl) (by kernel_rfl) (by exact fun _ _ _ h => h) (Or.inl ⟨by rfl, ?_⟩) hOn ?_
  rotate_left
  focus (intro W hSW; go_simp; try with_reducible rfl)
  try simp only [Act.put, List.setIfInBounds_toArray, List.set_cons_zero, List.set_cons_succ]
  refine wpAnyH_take (i := 1) (v := ?_) (by simp only [List.getElem?_toArray, List.getElem?_cons_succ, List.getElem?_cons_zero]; rfl) (by kernel_rfl) (by kernel_rfl) (by kernel_rfl) (by exact fun _ _ _ h => h) (Or.inl ⟨by rfl, ?_⟩) hOn ?_
  rotate_left
  focus (intro W hSW; go_simp; try with_reducible rfl)
  try simp only [Act.put, List.setIfInBounds_toArray, List.set_cons_zero, List.set_cons_succ]
  refine wpAnyH_take (i := 2) (v := ?_) (by simp only [List.getElem?_toArray, List.getElem?_cons_succ, List.getElem?_cons_zero]; rfl) (by kernel_rfl) (by kernel_rfl) (by kernel_rfl) (by exact fun _ _ _ h => h) (Or.inl ⟨by rfl, ?_⟩) hOn ?_
  rotate_left
  focus (intro W hSW; go_simp; try with_reducible rfl)
  try simp only [Act.put, List.setIfInBounds_toArray, List.set_cons_zero, List.set_cons_succ]
  refine wpAnyH_take (i := 4) (v := ?_) (by simp only [List.getElem?_toArray, List.getElem?_cons_succ, List.getElem?_cons_zero]; rfl) (by kernel_rfl) (by kernel_rfl) (by kernel_rfl) (by exact fun _ _ _ h => h) (Or.inl ⟨by rfl, ?_⟩) hOn ?_
  rotate_left
  focus (intro W hSW; go_simp; try with_reducible rfl)
  try simp only [Act.put, List.setIfInBounds_toArray, List.set_cons_zero, List.set_cons_succ]
  refine wpAnyH_take (i := 5) (v := ?_) (by simp only [List.getElem?_toArray, List.getElem?_cons_succ, List.getElem?_cons_zero]; rfl) (by kernel_rfl) (by kernel_rfl) (by kernel_rfl) (by exact fun _ _ _ h => h) (Or.inl ⟨by rfl, ?_⟩) hOn ?_
  rotate_left
  focus (intro W hSW; go_simp; try with_reducible rfl)
  try simp only [Act.put, List.setIfInBounds_toArray, List.set_cons_zero, List.set_cons_succ]
  refine wpAnyH_ready (rs := [3, 6]) (by kernel_rfl) (by simp) ?_
  refine AllReadyH.cons (by simp only [List.getElem?_toArray, List.getElem?_cons_succ, List.getElem?_cons_zero]; rfl) (fun Kz hKz => ?_) ?_
  go_simp
  focus (try go_wp2_with fail)
  (with_reducible refine made_step (t := 5) ?_)
  intro w5 hx5 hnew
  have hO5 := Lib.hid (ownB_one (x := 3) (base := w2.heap.size) hx5.out hOn.size)
  (try replace h3 := Lib.hid (h3.out.below hnew))
  clear hx5
  refine hKz.out _ _ (by first | exact hS | exact Below.trans hOn (Below.mono hnew (Below.size hOn))) (fun hNext => ?_)
  clear hKz Kz hOn
  have hOn := hNext
  clear hNext
  try clear hnew
  try clear hS
  try simp only [Act.put, List.setIfInBounds_toArray, List.set_cons_zero, List.set_cons_succ]
  refine wpAnyH_ready (rs := [6]) (by kernel_rfl) (by simp) ?_
  refine AllReadyH.cons (by simp only [List.getElem?_toArray, List.getElem?_cons_succ, List.getElem?_cons_zero]; rfl) (fun Kz hKz => ?_) AllReadyH.nil
  go_simp
  (with_reducible refine (hln.out _).mono ?_)
  rintro e w3 ⟨v3, rfl, ho3, hnew⟩
  (try replace hO5 := Lib.hid (OwnB.below hO5.out hnew (Nat.le_refl _)))
  obtain ⟨g3, c3, e3, _⟩ := ho3.form (by rw [hnb.out]; omega)
  subst e3
  obtain ⟨a4, c4, e4, h3, _⟩ := ho3.arg
  cases e4
  rw [hnb.out]
  replace h3 := Lib.hid h3
  clear ho3
  focus (go_wp2_with fail)
  refine hKz.out _ _ (by first | exact hS | exact Below.trans hOn (Below.mono hnew (Below.size hOn))) (fun hNext => ?_)
  clear hKz Kz hOn
  have hOn := hNext
  clear hNext
  try clear hnew
  try clear hS
  try simp only [Act.put, List.setIfInBounds_toArray, List.set_cons_zero, List.set_cons_succ]
  refine wpAnyH_ready (rs := [7]) (by kernel_rfl) (by simp) ?_
  refine AllReadyH.cons (by simp only [List.getElem?_toArray, List.getElem?_cons_succ, List.getElem?_cons_zero]; rfl) (fun Kz hKz => ?_) AllReadyH.nil
  rw [if_pos (by rfl)]
  (refine wpK_appB (.tmp 17) (.tmp 20) rfl w2.heap.size _ [3] rfl hO5 _ _ N0 8 rfl hnb h3 (by decide) (by decide) hOn.size ?_)
  intro v9 w9 ho9 hd9 hm9
  have hS := Below.grown hOn hd9.out hOn.size (fun k hk => (World.ownsRow.lt hO5.out k hk).1)
  refine hKz.out _ _ (by first | exact hS | exact Below.trans hOn (Below.mono hnew (Below.size hOn))) (fun hNext => ?_)
  clear hKz Kz hOn
  have hOn := hNext
  clear hNext
  try clear hnew
  try clear hS
  try simp only [Act.put]
  refine wpAnyH_take (i := 8) (v := ?_) (by simp only [List.getElem?_toArray, List.getElem?_cons_succ, List.getElem?_cons_zero]; rfl) (by kernel_rfl) (by kernel_rfl) (by kernel_rfl) (by exact fun _ _ _ h => h) (Or.inl ⟨by rfl, ?_⟩) hOn ?_
  rotate_left
  focus (intro W hSW; go_simp; try with_reducible rfl)
  try simp only [Act.put, List.setIfInBounds_toArray, List.set_cons_zero, List.set_cons_succ]
  refine wpAnyH_done (by kernel_rfl) ?_ _
  rotate_left
  refine AllReadyH.cons (by simp only [List.getElem?_toArray, List.getElem?_cons_succ, List.getElem?_cons_zero]; rfl) (fun Kz hKz => ?_) AllReadyH.nil
  go_simp
  (with_reducible refine (hln.out _).mono ?_)
  rintro e w3 ⟨v3, rfl, ho3, hnew⟩
  (try replace hO5 := Lib.hid (OwnB.below hO5.out hnew (Nat.le_refl _)))
  obtain ⟨g3, c3, e3, _⟩ := ho3.form (by rw [hnb.out]; omega)
  subst e3
  obtain ⟨a4, c4, e4, h3, _⟩ := ho3.arg
  cases e4
  rw [hnb.out]
  replace h3 := Lib.hid h3
  clear ho3
  focus (go_wp2_with fail)
  refine hKz.out _ _ (by first | exact hS | exact Below.trans hOn (Below.mono hnew (Below.size hOn))) (fun hNext => ?_)
  clear hKz Kz hOn
  have hOn := hNext
  clear hNext
  try clear hnew
  try clear hS
  try simp only [Act.put, List.setIfInBounds_toArray, List.set_cons_zero, List.set_cons_succ]
  refine wpAnyH_ready (rs := [3]) (by kernel_rfl) (by simp) ?_
  refine AllReadyH.cons (by simp only [List.getElem?_toArray, List.getElem?_cons_succ, List.getElem?_cons_zero]; rfl) (fun Kz hKz => ?_) AllReadyH.nil
  go_simp
  focus (try go_wp2_with fail)
  (with_reducible refine made_step (t := 5) ?_)
  intro w5 hx5 hnew
  have hO5 := Lib.hid (ownB_one (x := 3) (base := w2.heap.size) hx5.out hOn.size)
  (try replace h3 := Lib.hid (h3.out.below hnew))
  clear hx5
  refine hKz.out _ _ (by first | exact hS | exact Below.trans hOn (Below.mono hnew (Below.size hOn))) (fun hNext => ?_)
  clear hKz Kz hOn
  have hOn := hNext
  clear hNext
  try clear hnew
  try clear hS
  try simp only [Act.put, List.setIfInBounds_toArray, List.set_cons_zero, List.set_cons_succ]
  refine wpAnyH_ready (rs := [7]) (by kernel_rfl) (by simp) ?_
  refine AllReadyH.cons (by simp only [List.getElem?_toArray, List.getElem?_cons_succ, List.getElem?_cons_zero]; rfl) (fun Kz hKz => ?_) AllReadyH.nil
  rw [if_pos (by rfl)]
  (refine wpK_appB (.tmp 17) (.tmp 20) rfl w2.heap.size _ [3] rfl hO5 _ _ N0 8 rfl hnb h3 (by decide) (by decide) hOn.size ?_)
  intro v9 w9 ho9 hd9 hm9
  have hS := Below.grown hOn hd9.out hOn.size (fun k hk => (World.ownsRow.lt hO5.out k hk).1)
  refine hKz.out _ _ (by first | exact hS | exact Below.trans hOn (Below.mono hnew (Below.size hOn))) (fun hNext => ?_)
  clear hKz Kz hOn
  have hOn := hNext
  clear hNext
  try clear hnew
  try clear hS
  try simp only [Act.put]
  refine wpAnyH_take (i := 8) (v := ?_) (by simp only [List.getElem?_toArray, List.getElem?_cons_succ, List.getElem?_cons_zero]; rfl) (by kernel_rfl) (by kernel_rfl) (by kernel_rfl) (by exact fun _ _ _ h => h) (Or.inl ⟨by rfl, ?_⟩) hOn ?_
  rotate_left
  focus (intro W hSW; go_simp; try with_reducible rfl)
  try simp only [Act.put, List.setIfInBounds_toArray, List.set_cons_zero, List.set_cons_succ]
  refine wpAnyH_done (by kernel_rfl) ?_ _
  · have hg9 := Lib.hid hOn
    clear hOn hd9 hm9 k0 k1
    obtain ⟨a9, c9, e9, h9, _⟩ := ho9.out.arg
    subst e9
    have hP0 : ([3] ++ N0).length = 9 := by simp [hnb.out]
    rw [hP0]
    clear ho9
    generalize [3] ++ N0 = P0 at *
    replace hP0 := Lib.hid hP0
    replace h9 := Lib.hid h9
    obtain ⟨q0, q1, q2, q3, q4⟩ := hcf.out _ _ hrow2.out w9 hg9.out
    go_wp2_with fail
    with_reducible refine (hln.out _).mono ?_
    rintro e w10 ⟨v10, rfl, ho10, hnew⟩
    obtain ⟨a10, c10, rfl, h10, _⟩ := ho10.arg
    rw [hnb.out]
    replace h9 := Lib.hid (h9.out.below hnew)
    replace h10 := Lib.hid h10
    have hg10 := Lib.hid (Grown.trans hg9.out hnew)
    clear hnew ho10 q0 q1 q2 q3 q4
    obtain ⟨q0, q1, q2, q3, q4⟩ := hcf.out _ _ hrow2.out w10 hg10.out
    have hrow10 := Lib.hid (rowG hrow2.out hg10.out)
    go_wp2_with fail
    have k2 := fun W h => (hcf.out _ _ hrow10.out W h).2.2.1
    have k9 := fun W h => (hcf.out _ _ hrow10.out W h).2.2.2.1
    clear q0 q1 q2 q3 q4
    refine wp_region_on2 (by kernel_rfl) (fun wd hOn => ?_)
    refine wpAnyH_take (i := 0) (v := ?_) (by simp only [List.getElem?_toArray, List.getElem?_cons_zero]; rfl) (by kernel_rfl) (by kernel_rfl) (by kernel_rfl) (by exact fun _ _ _ h => h) (Or.inl ⟨by rfl, ?_⟩) hOn ?_
    rotate_left
    focus (intro W hSW; go_simp; try with_reducible rfl)
    try simp only [Act.put, List.setIfInBounds_toArray, List.set_cons_zero, List.set_cons_succ]
    refine wpAnyH_take (i := 1) (v := ?_) (by simp only [List.getElem?_toArray, List.getElem?_cons_succ, List.getElem?_cons_zero]; rfl) (by kernel_rfl) (by kernel_rfl) (by kernel_rfl) (by exact fun _ _ _ h => h) (Or.inl ⟨by rfl, ?_⟩) hOn ?_
    rotate_left
    focus (intro W hSW; go_simp; try with_reducible rfl)
    try simp only [Act.put, List.setIfInBounds_toArray, List.set_cons_zero, List.set_cons_succ]
    refine wpAnyH_take (i := 2) (v := ?_) (by simp only [List.getElem?_toArray, List.getElem?_cons_succ, List.getElem?_cons_zero]; rfl) (by kernel_rfl) (by kernel_rfl) (by kernel_rfl) (by exact fun _ _ _ h => h) (Or.inl ⟨by rfl, ?_⟩) hOn ?_
    rotate_left
    focus (intro W hSW; go_simp; try with_reducible rfl)
    try simp only [Act.put, List.setIfInBounds_toArray, List.set_cons_zero, List.set_cons_succ]
    refine wpAnyH_take (i := 4) (v := ?_) (by simp only [List.getElem?_toArray, List.getElem?_cons_succ, List.getElem?_cons_zero]; rfl) (by kernel_rfl) (by kernel_rfl) (by kernel_rfl) (by exact fun _ _ _ h => h) (Or.inl ⟨by rfl, ?_⟩) hOn ?_
    rotate_left
    focus (intro W hSW; go_simp; try with_reducible rfl)
    try simp only [Act.put, List.setIfInBounds_toArray, List.set_cons_zero, List.set_cons_succ]
    refine wpAnyH_take (i := 5) (v := ?_) (by simp only [List.getElem?_toArray, List.getElem?_cons_succ, List.getElem?_cons_zero]; rfl) (by kernel_rfl) (by kernel_rfl) (by kernel_rfl) (by exact fun _ _ _ h => h) (Or.inl ⟨by rfl, ?_⟩) hOn ?_
    rotate_left
    focus (intro W hSW; go_simp; try with_reducible rfl)
    try simp only [Act.put, List.setIfInBounds_toArray, List.set_cons_zero, List.set_cons_succ]
    refine wpAnyH_take (i := 6) (v := ?_) (by simp only [List.getElem?_toArray, List.getElem?_cons_succ, List.getElem?_cons_zero]; rfl) (by kernel_rfl) (by kernel_rfl) (by kernel_rfl) (by exact fun _ _ _ h => h) (Or.inl ⟨by rfl, ?_⟩) hOn ?_
    rotate_left
    focus (intro W hSW; go_simp; try with_reducible rfl)
    try simp only [Act.put, List.setIfInBounds_toArray, List.set_cons_zero, List.set_cons_succ]
    refine wpAnyH_take (i := 8) (v := ?_) (by simp only [List.getElem?_toArray, List.getElem?_cons_succ, List.getElem?_cons_zero]; rfl) (by kernel_rfl) (by kernel_rfl) (by kernel_rfl) (by exact fun _ _ _ h => h) (Or.inl ⟨by rfl, ?_⟩) hOn ?_
    rotate_left
    focus (intro W hSW; go_simp; try with_reducible rfl)
    try simp only [Act.put, List.setIfInBounds_toArray, List.set_cons_zero, List.set_cons_succ]
    refine wpAnyH_ready (rs := [3, 7]) (by kernel_rfl) (by simp) ?_
    refine AllReadyH.cons (by simp only [List.getElem?_toArray, List.getElem?_cons_succ, List.getElem?_cons_zero]; rfl) (fun Kz hKz => ?_) ?_
    go_simp
    (with_reducible refine (hln.out _).mono ?_)
    rintro e w11 ⟨v11, rfl, ho11, hnew⟩
    obtain ⟨a11, c11, rfl, h11, _⟩ := ho11.arg
    rw [hnb.out]
    have hz := Lib.hid (Grown.trans hOn hnew)
    replace h9 := Lib.hid (h9.out.below hz.out)
    replace h10 := Lib.hid (h10.out.below hz.out)
    replace hg10 := Lib.hid (Grown.trans hg10.out hz.out)
    (try replace h12 := Lib.hid (h12.out.below hz.out))
    (try replace k2 := keepR k2 hz.out)
    (try replace k9 := keepR k9 hz.out)
    replace h11 := Lib.hid h11
    clear hz ho11
    focus (go_wp2_with fail)
    refine hKz.out _ _ (Grown.trans hOn hnew) (fun hNext => ?_)
    clear hKz Kz hOn
    refine wpAnyH_onward hNext (fun hOn => ?_)
    clear hNext hnew
    try simp only [Act.put, List.setIfInBounds_toArray, List.set_cons_zero, List.set_cons_succ]
    refine wpAnyH_ready (rs := [7]) (by kernel_rfl) (by simp) ?_
    refine AllReadyH.cons (by simp only [List.getElem?_toArray, List.getElem?_cons_succ, List.getElem?_cons_zero]; rfl) (fun Kz hKz => ?_) AllReadyH.nil
    go_simp
    focus (try go_wp2_with fail)
    (with_reducible refine made_step (t := 5) ?_)
    intro w12 hx12 hnew
    have h12 := Lib.hid (argB_one (x := 1) hx12.out)
    have hz := Lib.hid (Grown.trans hOn hnew)
    replace h9 := Lib.hid (h9.out.below hz.out)
    replace h10 := Lib.hid (h10.out.below hz.out)
    replace hg10 := Lib.hid (Grown.trans hg10.out hz.out)
    (try replace h11 := Lib.hid (h11.out.below hz.out))
    (try replace k2 := keepR k2 hz.out)
    (try replace k9 := keepR k9 hz.out)
    clear hz hx12
    refine hKz.out _ _ (Grown.trans hOn hnew) (fun hNext => ?_)
    clear hKz Kz hOn
    refine wpAnyH_onward hNext (fun hOn => ?_)
    clear hNext hnew
    try simp only [Act.put, List.setIfInBounds_toArray, List.set_cons_zero, List.set_cons_succ]
    refine wpAnyH_ready (rs := [9]) (by kernel_rfl) (by simp) ?_
    refine AllReadyH.cons (by simp only [List.getElem?_toArray, List.getElem?_cons_succ, List.getElem?_cons_zero]; rfl) (fun Kz hKz => ?_) AllReadyH.nil
    go_simp
    focus (try go_wp2_with fail)
    (with_reducible refine made_step (t := 36) ?_)
    intro w13 hx13 hnew
    have hz := Lib.hid (Grown.trans hOn hnew)
    replace h9 := Lib.hid (h9.out.below hz.out)
    replace h10 := Lib.hid (h10.out.below hz.out)
    replace h11 := Lib.hid (h11.out.below hz.out)
    replace h12 := Lib.hid (h12.out.below hz.out)
    replace hg10 := Lib.hid (Grown.trans hg10.out hz.out)
    have hrows := Lib.hid (rows4 hx13.out hP0.out hnb.out rfl hnb.out h9.out h11.out h12.out h10.out)
    clear hz hx13
    refine hKz.out _ _ (Grown.trans hOn hnew) (fun hNext => ?_)
    clear hKz Kz hOn
    refine wpAnyH_onward hNext (fun hOn => ?_)
    clear hNext hnew
    try simp only [Act.put, List.setIfInBounds_toArray, List.set_cons_zero, List.set_cons_succ]
    refine wpAnyH_ready (rs := [10]) (by kernel_rfl) (by simp) ?_
    refine AllReadyH.cons (by simp only [List.getElem?_toArray, List.getElem?_cons_succ, List.getElem?_cons_zero]; rfl) (fun Kz hKz => ?_) AllReadyH.nil
    go_simp
    (with_reducible refine (concat4 _ P0 N0 [1] N0 _ (hrows.out.below hOn) hP0.out hnb.out rfl hnb.out).mono ?_)
    rintro e w14 ⟨a14, c14, rfl, hnew⟩
    replace hg10 := Lib.hid (Grown.trans hg10.out (Grown.trans hOn hnew))
    clear hrows
    focus (go_wp2_with fail)
    refine hKz.out _ _ (Grown.trans hOn hnew) (fun hNext => ?_)
    clear hKz Kz hOn
    refine wpAnyH_onward hNext (fun hOn => ?_)
    clear hNext hnew
    try simp only [Act.put, List.setIfInBounds_toArray, List.set_cons_zero, List.set_cons_succ]
    refine wpAnyH_take (i := 11) (v := ?_) (by simp only [List.getElem?_toArray, List.getElem?_cons_succ, List.getElem?_cons_zero]; rfl) (by kernel_rfl) (by kernel_rfl) (by kernel_rfl) (by exact fun _ _ _ h => h) (Or.inl ⟨by rfl, ?_⟩) hOn ?_
    rotate_left
    focus (intro W hSW; go_simp; try with_reducible rfl)
    try simp only [Act.put, List.setIfInBounds_toArray, List.set_cons_zero, List.set_cons_succ]
    refine wpAnyH_take (i := 12) (v := ?_) (by simp only [List.getElem?_toArray, List.getElem?_cons_succ, List.getElem?_cons_zero]; rfl) (by kernel_rfl) (by kernel_rfl) (by kernel_rfl) (by exact fun _ _ _ h => h) (Or.inl ⟨by rfl, ?_⟩) hOn ?_
    rotate_left
    focus (intro W hSW; go_simp; try with_reducible rfl)
    try simp only [Act.put, List.setIfInBounds_toArray, List.set_cons_zero, List.set_cons_succ]
    refine wpAnyH_done (by kernel_rfl) ?_ _
    rotate_left
    refine AllReadyH.cons (by simp only [List.getElem?_toArray, List.getElem?_cons_succ, List.getElem?_cons_zero]; rfl) (fun Kz hKz => ?_) AllReadyH.nil
    go_simp
    focus (try go_wp2_with fail)
    (with_reducible refine made_step (t := 5) ?_)
    intro w12 hx12 hnew
    have h12 := Lib.hid (argB_one (x := 1) hx12.out)
    have hz := Lib.hid (Grown.trans hOn hnew)
    replace h9 := Lib.hid (h9.out.below hz.out)
    replace h10 := Lib.hid (h10.out.below hz.out)
    replace hg10 := Lib.hid (Grown.trans hg10.out hz.out)
    (try replace h11 := Lib.hid (h11.out.below hz.out))
    (try replace k2 := keepR k2 hz.out)
    (try replace k9 := keepR k9 hz.out)
    clear hz hx12
    refine hKz.out _ _ (Grown.trans hOn hnew) (fun hNext => ?_)
    clear hKz Kz hOn
    refine wpAnyH_onward hNext (fun hOn => ?_)
    clear hNext hnew
    try simp only [Act.put, List.setIfInBounds_toArray, List.set_cons_zero, List.set_cons_succ]
    refine wpAnyH_ready (rs := [3]) (by kernel_rfl) (by simp) ?_
    refine AllReadyH.cons (by simp only [List.getElem?_toArray, List.getElem?_cons_succ, List.getElem?_cons_zero]; rfl) (fun Kz hKz => ?_) AllReadyH.nil
    go_simp
    (with_reducible refine (hln.out _).mono ?_)
    rintro e w11 ⟨v11, rfl, ho11, hnew⟩
    obtain ⟨a11, c11, rfl, h11, _⟩ := ho11.arg
    rw [hnb.out]
    have hz := Lib.hid (Grown.trans hOn hnew)
    replace h9 := Lib.hid (h9.out.below hz.out)
    replace h10 := Lib.hid (h10.out.below hz.out)
    replace hg10 := Lib.hid (Grown.trans hg10.out hz.out)
    (try replace h12 := Lib.hid (h12.out.below hz.out))
    (try replace k2 := keepR k2 hz.out)
    (try replace k9 := keepR k9 hz.out)
    replace h11 := Lib.hid h11
    clear hz ho11
    focus (go_wp2_with fail)
    refine hKz.out _ _ (Grown.trans hOn hnew) (fun hNext => ?_)
    clear hKz Kz hOn
    refine wpAnyH_onward hNext (fun hOn => ?_)
    clear hNext hnew
    try simp only [Act.put, List.setIfInBounds_toArray, List.set_cons_zero, List.set_cons_succ]
    refine wpAnyH_ready (rs := [9]) (by kernel_rfl) (by simp) ?_
    refine AllReadyH.cons (by simp only [List.getElem?_toArray, List.getElem?_cons_succ, List.getElem?_cons_zero]; rfl) (fun Kz hKz => ?_) AllReadyH.nil
    go_simp
    focus (try go_wp2_with fail)
    (with_reducible refine made_step (t := 36) ?_)
    intro w13 hx13 hnew
    have hz := Lib.hid (Grown.trans hOn hnew)
    replace h9 := Lib.hid (h9.out.below hz.out)
    replace h10 := Lib.hid (h10.out.below hz.out)
    replace h11 := Lib.hid (h11.out.below hz.out)
    replace h12 := Lib.hid (h12.out.below hz.out)
    replace hg10 := Lib.hid (Grown.trans hg10.out hz.out)
    have hrows := Lib.hid (rows4 hx13.out hP0.out hnb.out rfl hnb.out h9.out h11.out h12.out h10.out)
    clear hz hx13
    refine hKz.out _ _ (Grown.trans hOn hnew) (fun hNext => ?_)
    clear hKz Kz hOn
    refine wpAnyH_onward hNext (fun hOn => ?_)
    clear hNext hnew
    try simp only [Act.put, List.setIfInBounds_toArray, List.set_cons_zero, List.set_cons_succ]
    refine wpAnyH_ready (rs := [10]) (by kernel_rfl) (by simp) ?_
    refine AllReadyH.cons (by simp only [List.getElem?_toArray, List.getElem?_cons_succ, List.getElem?_cons_zero]; rfl) (fun Kz hKz => ?_) AllReadyH.nil
    go_simp
    (with_reducible refine (concat4 _ P0 N0 [1] N0 _ (hrows.out.below hOn) hP0.out hnb.out rfl hnb.out).mono ?_)
    rintro e w14 ⟨a14, c14, rfl, hnew⟩
    replace hg10 := Lib.hid (Grown.trans hg10.out (Grown.trans hOn hnew))
    clear hrows
    focus (go_wp2_with fail)
    refine hKz.out _ _ (Grown.trans hOn hnew) (fun hNext => ?_)
    clear hKz Kz hOn
    refine wpAnyH_onward hNext (fun hOn => ?_)
    clear hNext hnew
    try simp only [Act.put, List.setIfInBounds_toArray, List.set_cons_zero, List.set_cons_succ]
    refine wpAnyH_take (i := 11) (v := ?_) (by simp only [List.getElem?_toArray, List.getElem?_cons_succ, List.getElem?_cons_zero]; rfl) (by kernel_rfl) (by kernel_rfl) (by kernel_rfl) (by exact fun _ _ _ h => h) (Or.inl ⟨by rfl, ?_⟩) hOn ?_
    rotate_left
    focus (intro W hSW; go_simp; try with_reducible rfl)
    try simp only [Act.put, List.setIfInBounds_toArray, List.set_cons_zero, List.set_cons_succ]
    refine wpAnyH_take (i := 12) (v := ?_) (by simp only [List.getElem?_toArray, List.getElem?_cons_succ, List.getElem?_cons_zero]; rfl) (by kernel_rfl) (by kernel_rfl) (by kernel_rfl) (by exact fun _ _ _ h => h) (Or.inl ⟨by rfl, ?_⟩) hOn ?_
    rotate_left
    focus (intro W hSW; go_simp; try with_reducible rfl)
    try simp only [Act.put, List.setIfInBounds_toArray, List.set_cons_zero, List.set_cons_succ]
    refine wpAnyH_done (by kernel_rfl) ?_ _
    all_goals
      have hfin := Lib.hid (hb2.out.trans ((Grown.trans hg10.out hOn).mono hb2.out.size))
      clear hOn
      go_wp2_with fail
      go_ret2
      exact ⟨_, _, rfl, hfin.out⟩
  · have hg9 := Lib.hid hOn
    clear hOn hd9 hm9 k0 k1
    obtain ⟨a9, c9, e9, h9, _⟩ := ho9.out.arg
    subst e9
    have hP0 : ([3] ++ N0).length = 9 := by simp [hnb.out]
    rw [hP0]
    clear ho9
    generalize [3] ++ N0 = P0 at *
    replace hP0 := Lib.hid hP0
    replace h9 := Lib.hid h9
    obtain ⟨q0, q1, q2, q3, q4⟩ := hcf.out _ _ hrow2.out w9 hg9.out
    go_wp2_with fail
    with_reducible refine (hln.out _).mono ?_
    rintro e w10 ⟨v10, rfl, ho10, hnew⟩
    obtain ⟨a10, c10, rfl, h10, _⟩ := ho10.arg
    rw [hnb.out]
    replace h9 := Lib.hid (h9.out.below hnew)
    replace h10 := Lib.hid h10
    have hg10 := Lib.hid (Grown.trans hg9.out hnew)
    clear hnew ho10 q0 q1 q2 q3 q4
    obtain ⟨q0, q1, q2, q3, q4⟩ := hcf.out _ _ hrow2.out w10 hg10.out
    have hrow10 := Lib.hid (rowG hrow2.out hg10.out)
    go_wp2_with fail
    have k2 := fun W h => (hcf.out _ _ hrow10.out W h).2.2.1
    have k9 := fun W h => (hcf.out _ _ hrow10.out W h).2.2.2.1
    clear q0 q1 q2 q3 q4
    refine wp_region_on2 (by kernel_rfl) (fun wd hOn => ?_)
    refine wpAnyH_take (i := 0) (v := ?_) (by simp only [List.getElem?_toArray, List.getElem?_cons_zero]; rfl) (by kernel_rfl) (by kernel_rfl) (by kernel_rfl) (by exact fun _ _ _ h => h) (Or.inl ⟨by rfl, ?_⟩) hOn ?_
    rotate_left
    focus (intro W hSW; go_simp; try with_reducible rfl)
    try simp only [Act.put, List.setIfInBounds_toArray, List.set_cons_zero, List.set_cons_succ]
    refine wpAnyH_take (i := 1) (v := ?_) (by simp only [List.getElem?_toArray, List.getElem?_cons_succ, List.getElem?_cons_zero]; rfl) (by kernel_rfl) (by kernel_rfl) (by kernel_rfl) (by exact fun _ _ _ h => h) (Or.inl ⟨by rfl, ?_⟩) hOn ?_
    rotate_left
    focus (intro W hSW; go_simp; try with_reducible rfl)
    try simp only [Act.put, List.setIfInBounds_toArray, List.set_cons_zero, List.set_cons_succ]
    refine wpAnyH_take (i := 2) (v := ?_) (by simp only [List.getElem?_toArray, List.getElem?_cons_succ, List.getElem?_cons_zero]; rfl) (by kernel_rfl) (by kernel_rfl) (by kernel_rfl) (by exact fun _ _ _ h => h) (Or.inl ⟨by rfl, ?_⟩) hOn ?_
    rotate_left
    focus (intro W hSW; go_simp; try with_reducible rfl)
    try simp only [Act.put, List.setIfInBounds_toArray, List.set_cons_zero, List.set_cons_succ]
    refine wpAnyH_take (i := 4) (v := ?_) (by simp only [List.getElem?_toArray, List.getElem?_cons_succ, List.getElem?_cons_zero]; rfl) (by kernel_rfl) (by kernel_rfl) (by kernel_rfl) (by exact fun _ _ _ h => h) (Or.inl ⟨by rfl, ?_⟩) hOn ?_
    rotate_left
    focus (intro W hSW; go_simp; try with_reducible rfl)
    try simp only [Act.put, List.setIfInBounds_toArray, List.set_cons_zero, List.set_cons_succ]
    refine wpAnyH_take (i := 5) (v := ?_) (by simp only [List.getElem?_toArray, List.getElem?_cons_succ, List.getElem?_cons_zero]; rfl) (by kernel_rfl) (by kernel_rfl) (by kernel_rfl) (by exact fun _ _ _ h => h) (Or.inl ⟨by rfl, ?_⟩) hOn ?_
    rotate_left
    focus (intro W hSW; go_simp; try with_reducible rfl)
    try simp only [Act.put, List.setIfInBounds_toArray, List.set_cons_zero, List.set_cons_succ]
    refine wpAnyH_take (i := 6) (v := ?_) (by simp only [List.getElem?_toArray, List.getElem?_cons_succ, List.getElem?_cons_zero]; rfl) (by kernel_rfl) (by kernel_rfl) (by kernel_rfl) (by exact fun _ _ _ h => h) (Or.inl ⟨by rfl, ?_⟩) hOn ?_
    rotate_left
    focus (intro W hSW; go_simp; try with_reducible rfl)
    try simp only [Act.put, List.setIfInBounds_toArray, List.set_cons_zero, List.set_cons_succ]
    refine wpAnyH_take (i := 8) (v := ?_) (by simp only [List.getElem?_toArray, List.getElem?_cons_succ, List.getElem?_cons_zero]; rfl) (by kernel_rfl) (by kernel_rfl) (by kernel_rfl) (by exact fun _ _ _ h => h) (Or.inl ⟨by rfl, ?_⟩) hOn ?_
    rotate_left
    focus (intro W hSW; go_simp; try with_reducible rfl)
    try simp only [Act.put, List.setIfInBounds_toArray, List.set_cons_zero, List.set_cons_succ]
    refine wpAnyH_ready (rs := [3, 7]) (by kernel_rfl) (by simp) ?_
    refine AllReadyH.cons (by simp only [List.getElem?_toArray, List.getElem?_cons_succ, List.getElem?_cons_zero]; rfl) (fun Kz hKz => ?_) ?_
    go_simp
    (with_reducible refine (hln.out _).mono ?_)
    rintro e w11 ⟨v11, rfl, ho11, hnew⟩
    obtain ⟨a11, c11, rfl, h11, _⟩ := ho11.arg
    rw [hnb.out]
    have hz := Lib.hid (Grown.trans hOn hnew)
    replace h9 := Lib.hid (h9.out.below hz.out)
    replace h10 := Lib.hid (h10.out.below hz.out)
    replace hg10 := Lib.hid (Grown.trans hg10.out hz.out)
    (try replace h12 := Lib.hid (h12.out.below hz.out))
    (try replace k2 := keepR k2 hz.out)
    (try replace k9 := keepR k9 hz.out)
    replace h11 := Lib.hid h11
    clear hz ho11
    focus (go_wp2_with fail)
    refine hKz.out _ _ (Grown.trans hOn hnew) (fun hNext => ?_)
    clear hKz Kz hOn
    refine wpAnyH_onward hNext (fun hOn => ?_)
    clear hNext hnew
    try simp only [Act.put, List.setIfInBounds_toArray, List.set_cons_zero, List.set_cons_succ]
    refine wpAnyH_ready (rs := [7]) (by kernel_rfl) (by simp) ?_
    refine AllReadyH.cons (by simp only [List.getElem?_toArray, List.getElem?_cons_succ, List.getElem?_cons_zero]; rfl) (fun Kz hKz => ?_) AllReadyH.nil
    go_simp
    focus (try go_wp2_with fail)
    (with_reducible refine made_step (t := 5) ?_)
    intro w12 hx12 hnew
    have h12 := Lib.hid (argB_one (x := 1) hx12.out)
    have hz := Lib.hid (Grown.trans hOn hnew)
    replace h9 := Lib.hid (h9.out.below hz.out)
    replace h10 := Lib.hid (h10.out.below hz.out)
    replace hg10 := Lib.hid (Grown.trans hg10.out hz.out)
    (try replace h11 := Lib.hid (h11.out.below hz.out))
    (try replace k2 := keepR k2 hz.out)
    (try replace k9 := keepR k9 hz.out)
    clear hz hx12
    refine hKz.out _ _ (Grown.trans hOn hnew) (fun hNext => ?_)
    clear hKz Kz hOn
    refine wpAnyH_onward hNext (fun hOn => ?_)
    clear hNext hnew
    try simp only [Act.put, List.setIfInBounds_toArray, List.set_cons_zero, List.set_cons_succ]
    refine wpAnyH_ready (rs := [9]) (by kernel_rfl) (by simp) ?_
    refine AllReadyH.cons (by simp only [List.getElem?_toArray, List.getElem?_cons_succ, List.getElem?_cons_zero]; rfl) (fun Kz hKz => ?_) AllReadyH.nil
    go_simp
    focus (try go_wp2_with fail)
    (with_reducible refine made_step (t := 36) ?_)
    intro w13 hx13 hnew
    have hz := Lib.hid (Grown.trans hOn hnew)
    replace h9 := Lib.hid (h9.out.below hz.out)
    replace h10 := Lib.hid (h10.out.below hz.out)
    replace h11 := Lib.hid (h11.out.below hz.out)
    replace h12 := Lib.hid (h12.out.below hz.out)
    replace hg10 := Lib.hid (Grown.trans hg10.out hz.out)
    have hrows := Lib.hid (rows4 hx13.out hP0.out hnb.out rfl hnb.out h9.out h11.out h12.out h10.out)
    clear hz hx13
    refine hKz.out _ _ (Grown.trans hOn hnew) (fun hNext => ?_)
    clear hKz Kz hOn
    refine wpAnyH_onward hNext (fun hOn => ?_)
    clear hNext hnew
    try simp only [Act.put, List.setIfInBounds_toArray, List.set_cons_zero, List.set_cons_succ]
    refine wpAnyH_ready (rs := [10]) (by kernel_rfl) (by simp) ?_
    refine AllReadyH.cons (by simp only [List.getElem?_toArray, List.getElem?_cons_succ, List.getElem?_cons_zero]; rfl) (fun Kz hKz => ?_) AllReadyH.nil
    go_simp
    (with_reducible refine (concat4 _ P0 N0 [1] N0 _ (hrows.out.below hOn) hP0.out hnb.out rfl hnb.out).mono ?_)
    rintro e w14 ⟨a14, c14, rfl, hnew⟩
    replace hg10 := Lib.hid (Grown.trans hg10.out (Grown.trans hOn hnew))
    clear hrows
    focus (go_wp2_with fail)
    refine hKz.out _ _ (Grown.trans hOn hnew) (fun hNext => ?_)
    clear hKz Kz hOn
    refine wpAnyH_onward hNext (fun hOn => ?_)
    clear hNext hnew
    try simp only [Act.put, List.setIfInBounds_toArray, List.set_cons_zero, List.set_cons_succ]
    refine wpAnyH_take (i := 11) (v := ?_) (by simp only [List.getElem?_toArray, List.getElem?_cons_succ, List.getElem?_cons_zero]; rfl) (by kernel_rfl) (by kernel_rfl) (by kernel_rfl) (by exact fun _ _ _ h => h) (Or.inl ⟨by rfl, ?_⟩) hOn ?_
    rotate_left
    focus (intro W hSW; go_simp; try with_reducible rfl)
    try simp only [Act.put, List.setIfInBounds_toArray, List.set_cons_zero, List.set_cons_succ]
    refine wpAnyH_take (i := 12) (v := ?_) (by simp only [List.getElem?_toArray, List.getElem?_cons_succ, List.getElem?_cons_zero]; rfl) (by kernel_rfl) (by kernel_rfl) (by kernel_rfl) (by exact fun _ _ _ h => h) (Or.inl ⟨by rfl, ?_⟩) hOn ?_
    rotate_left
    focus (intro W hSW; go_simp; try with_reducible rfl)
    try simp only [Act.put, List.setIfInBounds_toArray, List.set_cons_zero, List.set_cons_succ]
    refine wpAnyH_done (by kernel_rfl) ?_ _
    rotate_left
    refine AllReadyH.cons (by simp only [List.getElem?_toArray, List.getElem?_cons_succ, List.getElem?_cons_zero]; rfl) (fun Kz hKz => ?_) AllReadyH.nil
    go_simp
    focus (try go_wp2_with fail)
    (with_reducible refine made_step (t := 5) ?_)
    intro w12 hx12 hnew
    have h12 := Lib.hid (argB_one (x := 1) hx12.out)
    have hz := Lib.hid (Grown.trans hOn hnew)
    replace h9 := Lib.hid (h9.out.below hz.out)
    replace h10 := Lib.hid (h10.out.below hz.out)
    replace hg10 := Lib.hid (Grown.trans hg10.out hz.out)
    (try replace h11 := Lib.hid (h11.out.below hz.out))
    (try replace k2 := keepR k2 hz.out)
    (try replace k9 := keepR k9 hz.out)
    clear hz hx12
    refine hKz.out _ _ (Grown.trans hOn hnew) (fun hNext => ?_)
    clear hKz Kz hOn
    refine wpAnyH_onward hNext (fun hOn => ?_)
    clear hNext hnew
    try simp only [Act.put, List.setIfInBounds_toArray, List.set_cons_zero, List.set_cons_succ]
    refine wpAnyH_ready (rs := [3]) (by kernel_rfl) (by simp) ?_
    refine AllReadyH.cons (by simp only [List.getElem?_toArray, List.getElem?_cons_succ, List.getElem?_cons_zero]; rfl) (fun Kz hKz => ?_) AllReadyH.nil
    go_simp
    (with_reducible refine (hln.out _).mono ?_)
    rintro e w11 ⟨v11, rfl, ho11, hnew⟩
    obtain ⟨a11, c11, rfl, h11, _⟩ := ho11.arg
    rw [hnb.out]
    have hz := Lib.hid (Grown.trans hOn hnew)
    replace h9 := Lib.hid (h9.out.below hz.out)
    replace h10 := Lib.hid (h10.out.below hz.out)
    replace hg10 := Lib.hid (Grown.trans hg10.out hz.out)
    (try replace h12 := Lib.hid (h12.out.below hz.out))
    (try replace k2 := keepR k2 hz.out)
    (try replace k9 := keepR k9 hz.out)
    replace h11 := Lib.hid h11
    clear hz ho11
    focus (go_wp2_with fail)
    refine hKz.out _ _ (Grown.trans hOn hnew) (fun hNext => ?_)
    clear hKz Kz hOn
    refine wpAnyH_onward hNext (fun hOn => ?_)
    clear hNext hnew
    try simp only [Act.put, List.setIfInBounds_toArray, List.set_cons_zero, List.set_cons_succ]
    refine wpAnyH_ready (rs := [9]) (by kernel_rfl) (by simp) ?_
    refine AllReadyH.cons (by simp only [List.getElem?_toArray, List.getElem?_cons_succ, List.getElem?_cons_zero]; rfl) (fun Kz hKz => ?_) AllReadyH.nil
    go_simp
    focus (try go_wp2_with fail)
    (with_reducible refine made_step (t := 36) ?_)
    intro w13 hx13 hnew
    have hz := Lib.hid (Grown.trans hOn hnew)
    replace h9 := Lib.hid (h9.out.below hz.out)
    replace h10 := Lib.hid (h10.out.below hz.out)
    replace h11 := Lib.hid (h11.out.below hz.out)
    replace h12 := Lib.hid (h12.out.below hz.out)
    replace hg10 := Lib.hid (Grown.trans hg10.out hz.out)
    have hrows := Lib.hid (rows4 hx13.out hP0.out hnb.out rfl hnb.out h9.out h11.out h12.out h10.out)
    clear hz hx13
    refine hKz.out _ _ (Grown.trans hOn hnew) (fun hNext => ?_)
    clear hKz Kz hOn
    refine wpAnyH_onward hNext (fun hOn => ?_)
    clear hNext hnew
    try simp only [Act.put, List.setIfInBounds_toArray, List.set_cons_zero, List.set_cons_succ]
    refine wpAnyH_ready (rs := [10]) (by kernel_rfl) (by simp) ?_
    refine AllReadyH.cons (by simp only [List.getElem?_toArray, List.getElem?_cons_succ, List.getElem?_cons_zero]; rfl) (fun Kz hKz => ?_) AllReadyH.nil
    go_simp
    (with_reducible refine (concat4 _ P0 N0 [1] N0 _ (hrows.out.below hOn) hP0.out hnb.out rfl hnb.out).mono ?_)
    rintro e w14 ⟨a14, c14, rfl, hnew⟩
    replace hg10 := Lib.hid (Grown.trans hg10.out (Grown.trans hOn hnew))
    clear hrows
    focus (go_wp2_with fail)
    refine hKz.out _ _ (Grown.trans hOn hnew) (fun hNext => ?_)
    clear hKz Kz hOn
    refine wpAnyH_onward hNext (fun hOn => ?_)
    clear hNext hnew
    try simp only [Act.put, List.setIfInBounds_toArray, List.set_cons_zero, List.set_cons_succ]
    refine wpAnyH_take (i := 11) (v := ?_) (by simp only [List.getElem?_toArray, List.getElem?_cons_succ, List.getElem?_cons_zero]; rfl) (by kernel_rfl) (by kernel_rfl) (by kernel_rfl) (by exact fun _ _ _ h => h) (Or.inl ⟨by rfl, ?_⟩) hOn ?_
    rotate_left
    focus (intro W hSW; go_simp; try with_reducible rfl)
    try simp only [Act.put, List.setIfInBounds_toArray, List.set_cons_zero, List.set_cons_succ]
    refine wpAnyH_take (i := 12) (v := ?_) (by simp only [List.getElem?_toArray, List.getElem?_cons_succ, List.getElem?_cons_zero]; rfl) (by kernel_rfl) (by kernel_rfl) (by kernel_rfl) (by exact fun _ _ _ h => h) (Or.inl ⟨by rfl, ?_⟩) hOn ?_
    rotate_left
    focus (intro W hSW; go_simp; try with_reducible rfl)
    try simp only [Act.put, List.setIfInBounds_toArray, List.set_cons_zero, List.set_cons_succ]
    refine wpAnyH_done (by kernel_rfl) ?_ _
    all_goals
      have hfin := Lib.hid (hb2.out.trans ((Grown.trans hg10.out hOn).mono hb2.out.size))
      clear hOn
      go_wp2_with fail
      go_ret2
      exact ⟨_, _, rfl, hfin.out⟩

end Go.Proofs.YtahnicbokdbjdaaDoor
