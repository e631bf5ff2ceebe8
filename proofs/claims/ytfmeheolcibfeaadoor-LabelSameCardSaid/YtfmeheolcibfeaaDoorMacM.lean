/- The walks over (*mac.Key).Of, mac.Of, (*mac.Key).Tag, mac.Same, (*mac.Key).Right. -/
import Derived.Test.YtfmeheolcibfeaaDoorMacL
import Derived.Deep.CutRange
import Derived.Test.YtfmeheolcibfeaaDoorOnL
namespace Go.Proofs.YtfmeheolcibfeaaDoor
open Go.RowKit

theorem flatten_le_mul (ps : List (List UInt8)) (x : List UInt8) : (x :: ps).flatten = x ++ ps.flatten := by simp
theorem argBB_insert {w : World} {g c : Nat} {x : List UInt8} {ax : Option Addr} {cx : Nat} {vs : List Value} {ps : List (List UInt8)} (h : ValsAt w vs ps) (hx : ArgB w ax cx x) (ha : At w (some ⟨g, 0, none⟩) (.slice ax x.length cx :: vs)) (h1 : ps.length + 1 ≤ c) (h2 : c ≤ maxLen) : ArgBB w (some ⟨g, 0, none⟩) c (x :: ps) :=
  ArgBB.of (h.cons hx) ha (by simpa using h1) h2 (fun e => by cases e)
theorem ownBlock_ge {w : World} {base : Nat} {e : TypeId} {v : Value} {n : Nat} {vs : List Value} (h : w.ownsRow base e 1 v n vs) : ∀ k, v.ownBlock = some k → base ≤ k ∧ k < w.heap.size := fun k hk => World.ownsRow.lt h k hk

theorem ownsRow_grown {w w' : World} {base : Nat} {e : TypeId} {v : Value} {n : Nat} {xs : List Value} (h : w.ownsRow base e 1 v n xs) (hg : Grown w w') : w'.ownsRow base e 1 v n xs := by
  refine ⟨h.1, ?_⟩
  rcases h.2 with h2 | ⟨g, cap, cur, e1, e2, e3, e4⟩
  · exact .inl h2
  · exact .inr ⟨g, cap, cur, e1, e2, (hg.block g (block_lt e3)).trans e3, e4⟩
theorem rowGB {w w' : World} {r : Option Nat} {g : Nat} {o : Obj} (h : w.heap[g]? = some o) (hg : w.grownBy w' r) (hne : some g ≠ r) : w'.heap[g]? = some o := (hg.block g (block_lt h) hne).trans h

set_option maxRecDepth 10000 in
set_option maxHeartbeats 2000000 in
theorem keyOf_any (b : Nat) (key : List UInt8) (a : Option Addr) (cap : Nat) (ps : List (List UInt8)) (w : World) (hk : KeyAt w b key) (h : ArgBB w a cap ps) (hl : ps.flatten.length ≤ 90000) (hn : ps.length ≤ 10000) (hK : ShaK w) (hF : ShaF w) :
    Calls Tryd.prog 32 #[.pointer (some ⟨b, 0, none⟩), .slice a ps.length cap] w fun e w' => e = .returned (.agg (cB (hmac key ps.flatten)).toArray) ∧ Below w.heap.size w w' := by
  have zr2 := zero32_run
  have zn2 := zero32_ne
  obtain ⟨g1, g2, hb, h1, h2⟩ := hk
  obtain ⟨vs, hvs, hat⟩ := h.vals
  have hw0 : Below w.heap.size w (w.alloc (.cells zero32 49)) := (Below.refl _ w).alloc (Nat.le_refl _) _
  have kc0 : ∀ W, Below w.heap.size w W → W.cell? ⟨b, 0, none⟩ = some (.slice (some ⟨g1, 0, none⟩) 64 64) := fun W hW => by
    rw [cell_of_block ((hW.block b (block_lt hb)).trans hb)]; rfl
  have kc1 : ∀ W, Below w.heap.size w W → W.cell? ⟨b, 1, none⟩ = some (.slice (some ⟨g2, 0, none⟩) 64 64) := fun W hW => by
    rw [cell_of_block ((hW.block b (block_lt hb)).trans hb)]; rfl
  have hZ := heap_alloc_new w (.cells zero32 49)
  have hlx : (ipad key).length = 64 := ipad_length key
  have hly : (opad key).length = 64 := opad_length key
  have hD2 := Lib.hid (show sha [opad key, sha ((ipad key) :: ps).flatten].flatten = hmac key ps.flatten from by simp [hmac])
  have hL2 : (sha ((ipad key) :: ps).flatten).length = 32 := sha_length _
  have hL3 : (sha [opad key, sha ((ipad key) :: ps).flatten].flatten).length = 32 := sha_length _
  have hfl := Lib.hid (show ((ipad key) :: ps).flatten.length ≤ 100000 from by rw [List.flatten_cons, List.length_append, hlx]; omega)
  have hf2 := Lib.hid (show [opad key, sha ((ipad key) :: ps).flatten].flatten.length ≤ 100000 from by simp [hly, sha_length])
  have hszD : ∀ l : List UInt8, l.length = 32 → (Tryd.prog.info? 49).map (·.size) = some (cB l).toArray.size := fun l hl => by rw [List.size_toArray, cB_length, hl]; kernel_rfl
  have hs32 : ∀ l : List UInt8, l.length = 32 → zero32.size = (cB l).toArray.size := fun l hl => by rw [zero32_size, List.size_toArray, cB_length, hl]
  have hone : ∀ l : List UInt8, (cB l).toArray.all (·.oneCell') = true := fun l => by
    rw [List.all_toArray, List.all_eq_true]
    exact cB_one _
  obtain ⟨L, hL⟩ : ∃ L, L = sha ((ipad key) :: ps).flatten := ⟨_, rfl⟩
  rw [← hL] at hL2 hL3 hD2 hf2
  obtain ⟨M, hM⟩ : ∃ M, M = sha [opad key, L].flatten := ⟨_, rfl⟩
  rw [← hM] at hL3 hD2
  have sD := hszD L hL2
  have s32 := hs32 L hL2
  have sO := hone L
  have tD := hszD M hL3
  have t32 := hs32 M hL3
  have tO := hone M
  have hargL := fun (W : World) (g : Nat) (h : W.heap[g]? = some (.cells (cB L).toArray 49 (0, 0))) => argB_block (c := 32) h (by omega) (by omega)
  obtain ⟨D, hD⟩ : ∃ D, D = (cB L).toArray := ⟨_, rfl⟩
  obtain ⟨E, hE⟩ : ∃ E, E = (cB M).toArray := ⟨_, rfl⟩
  rw [← hD] at sD s32 sO hargL
  rw [← hE] at tD t32 tO
  have hsh1 := fun (W : World) (g c : Nat) hA hB hC => shaOf_any (some ⟨g, 0, none⟩) c ((ipad key) :: ps) W hA hfl.out (by simp; omega) hB hC
  have hsh2 := fun (W : World) (g : Nat) hA hB hC => shaOf_any (some ⟨g, 0, none⟩) 2 [opad key, L] W hA hf2.out (by simp) hB hC
  rw [← hL, ← hD, List.length_cons] at hsh1
  rw [← hM, ← hE, show [opad key, L].length = 2 from rfl] at hsh2
  have hd1 := hw0.drew
  replace hZ : (w.alloc (.cells zero32 49)).drew.heap[w.heap.size]? = some (.cells zero32 49 (0, 0)) := hZ
  have hin := fun W (hW : Below w.heap.size w W) (g c : Nat) => argBB_insert (g := g) (c := c) (hvs.below hW) (h1.below hW)
  have hpair := fun W (hW : Below w.heap.size w W) (q g : Nat) (ha : ArgB W (some ⟨q, 0, none⟩) 32 L) => argBB_two (g := g) (h2.below hW) ha
  rw [hlx] at hin
  rw [hly, hL2] at hpair
  have hcl := fun W (hW : Below w.heap.size w W) => cloneS_vs a cap ps vs W (h.below hW) (hvs.below hW) (hat.below hW) (by omega)
  have hvone := hvs.one
  obtain ⟨p, hp⟩ : ∃ p, p = w.heap.size := ⟨_, rfl⟩
  rw [← hp] at hZ
  have hpl : w.heap.size ≤ p := by omega
  obtain ⟨A, hA⟩ : ∃ A, A = w.alloc (.cells zero32 49) := ⟨_, rfl⟩
  have hlt : p < A.drew.heap.size := by rw [hA, hp]; simp
  rw [← hA] at hZ hw0 hd1
  clear hb hvs hat h h1 h2 hszD hs32 hone
  replace hL := Lib.hid hL
  replace hM := Lib.hid hM
  replace hD := Lib.hid hD
  replace hE := Lib.hid hE
  replace hsh1 := Lib.hid hsh1
  replace hsh2 := Lib.hid hsh2
  replace hin := Lib.hid hin
  replace hpair := Lib.hid hpair
  replace hcl := Lib.hid hcl
  replace hvone := Lib.hid hvone
  replace hargL := Lib.hid hargL
  replace hZ := Lib.hid hZ
  replace hp := Lib.hid hp
  replace hd1 := Lib.hid hd1
  replace hA := Lib.hid hA
  replace hK := Lib.hid hK
  replace hF := Lib.hid hF
  replace hlx := Lib.hid hlx
  replace hly := Lib.hid hly
  go_enter Tryd.func32, Tryd.ntmps32
  go_wp2_with fail
  rw [← hA.out, ← hp.out]
  go_cut [5] from 6 to 14 (fun s5 wx => ∃ q, s5 = .pointer (some ⟨q, 0, none⟩) ∧ ArgB wx (some ⟨q, 0, none⟩) 32 L ∧ wx.heap[p]? = some (.cells zero32 49 (0, 0)) ∧ Below w.heap.size w wx)
  case first =>
    refine wp_region_held_drew (S := (Below w.heap.size w)) (by kernel_rfl) hd1.out (fun hOn => ?_)
    generalize World.drew A = wd at *
    refine wpAnyH_take (i := 0) (v := ?_) (by simp only [List.getElem?_toArray, List.getElem?_cons_zero]; rfl) (by kernel_rfl) (by kernel_rfl) (by kernel_rfl) (by exact fun _ _ _ h => h) (Or.inl ⟨by rfl, ?_⟩) hOn ?_
    rotate_left
    focus (intro W hSW; go_simp; try with_reducible rfl)
    try simp only [Act.put, List.setIfInBounds_toArray, List.set_cons_zero, List.set_cons_succ]
    refine wpAnyH_take (i := 2) (v := ?_) (by simp only [List.getElem?_toArray, List.getElem?_cons_succ, List.getElem?_cons_zero]; rfl) (by kernel_rfl) (by kernel_rfl) (by kernel_rfl) (by exact fun _ _ _ h => h) (Or.inl ⟨by rfl, ?_⟩) hOn ?_
    rotate_left
    focus (intro W hSW; go_simp; try with_reducible rfl)
    try simp only [Act.put, List.setIfInBounds_toArray, List.set_cons_zero, List.set_cons_succ]
    refine wpAnyH_take (i := 3) (v := ?_) (by simp only [List.getElem?_toArray, List.getElem?_cons_succ, List.getElem?_cons_zero]; rfl) (by kernel_rfl) (by kernel_rfl) (by kernel_rfl) (by exact fun _ _ _ h => h) (Or.inl ⟨by rfl, ?_⟩) hOn ?_
    rotate_left
    focus (intro W hSW; go_simp; try with_reducible rfl)
    try simp only [Act.put, List.setIfInBounds_toArray, List.set_cons_zero, List.set_cons_succ]
    refine wpAnyH_take (i := 4) (v := ?_) (by simp only [List.getElem?_toArray, List.getElem?_cons_succ, List.getElem?_cons_zero]; rfl) (by kernel_rfl) (by kernel_rfl) (by kernel_rfl) (by exact fun _ _ _ h => h) (Or.inl ⟨by rfl, ?_⟩) hOn ?_
    rotate_left
    focus (intro W hSW; go_simp; try with_reducible rfl)
    try simp only [Act.put, List.setIfInBounds_toArray, List.set_cons_zero, List.set_cons_succ]
    refine wpAnyH_take (i := 5) (v := ?_) (by simp only [List.getElem?_toArray, List.getElem?_cons_succ, List.getElem?_cons_zero]; rfl) (by kernel_rfl) (by kernel_rfl) (by kernel_rfl) (by exact fun _ _ _ h => h) (Or.inl ⟨by rfl, ?_⟩) hOn ?_
    rotate_left
    focus (intro W hSW; go_simp; try with_reducible rfl)
    try simp only [Act.put, List.setIfInBounds_toArray, List.set_cons_zero, List.set_cons_succ]
    refine wpAnyH_ready (rs := [1, 6, 9]) (by kernel_rfl) (by simp) ?_
    refine AllReadyH.cons (by simp only [List.getElem?_toArray, List.getElem?_cons_succ, List.getElem?_cons_zero]; rfl) (fun Kz hKz => ?_) ?_
    go_simp
    (with_reducible refine (hcl.out _ hOn).mono ?_)
    rintro e w3 ⟨v3, rfl, ho3, hnew⟩
    have hlo3 := ownBlock_ge ho3
    have hs3 := hnew.size
    replace hZ := Lib.hid (rowG hZ.out _ hnew)
    (try replace hz6 := Lib.hid (rowG hz6.out _ hnew))
    (try replace hx5 := Lib.hid (rowG hx5.out _ hnew))
    replace ho3 := Lib.hid ho3
    replace hlo3 := Lib.hid hlo3
    have hB3 := hOn.size
    have hlt3 := hlt
    go_wp2_with fail
    refine hKz.out _ _ (by first | exact hS | exact Below.trans hOn (Below.mono hnew (Below.size hOn))) (fun hNext => ?_)
    clear hKz Kz hOn
    have hOn := hNext
    clear hNext
    try clear hnew
    try clear hS
    try simp only [Act.put, List.setIfInBounds_toArray, List.set_cons_zero, List.set_cons_succ]
    refine wpAnyH_ready (rs := [6, 9]) (by kernel_rfl) (by simp) ?_
    refine AllReadyH.cons (by simp only [List.getElem?_toArray, List.getElem?_cons_succ, List.getElem?_cons_zero]; rfl) (fun Kz hKz => ?_) ?_
    go_simp
    try go_wp2_with fail
    (with_reducible refine made_step (t := 22) ?_)
    intro w5 hx5 hnew
    have hs5 := hnew.size
    have hl5 := block_lt hx5.out
    replace hZ := Lib.hid (rowG hZ.out _ hnew)
    (try replace hz6 := Lib.hid (rowG hz6.out _ hnew))
    (try replace ho3 := Lib.hid (ownsRow_grown ho3.out hnew))
    refine hKz.out _ _ (by first | exact hS | exact Below.trans hOn (Below.mono hnew (Below.size hOn))) (fun hNext => ?_)
    clear hKz Kz hOn
    have hOn := hNext
    clear hNext
    try clear hnew
    try clear hS
    try simp only [Act.put, List.setIfInBounds_toArray, List.set_cons_zero, List.set_cons_succ]
    refine wpAnyH_ready (rs := [7, 9]) (by kernel_rfl) (by simp) ?_
    refine AllReadyH.cons (by simp only [List.getElem?_toArray, List.getElem?_cons_succ, List.getElem?_cons_zero]; rfl) (fun Kz hKz => ?_) ?_
    go_simp
    (with_reducible refine (insert_any _ v3 ps.length vs _ _ _ ho3.out hx5.out (fun e => by have := hlo3.out _ e; have := block_lt hx5.out; omega) hvone.out rfl (by omega) (by omega)).mono ?_)
    rintro e w7 ⟨g7, c7, rfl, hat7, hc7, hm7, hg7⟩
    have hb7 := (Below.refl _ _).grown hg7 (by omega) (fun k hk => (hlo3.out k hk).1)
    have hS := hOn.trans (hb7.mono (by omega))
    have hs7 := hg7.size
    replace hZ := Lib.hid (rowGB hZ.out hg7 (fun e => by have := hlo3.out _ e.symm; omega))
    (try replace hz6 := Lib.hid (rowGB hz6.out hg7 (fun e => by have := hlo3.out _ e.symm; omega)))
    clear ho3 hx5 hb7 hg7
    replace hat7 := Lib.hid (hin.out _ hS _ _ hat7 hc7 hm7)
    go_wp2_with fail
    refine hKz.out _ _ (by first | exact hS | exact Below.trans hOn (Below.mono hnew (Below.size hOn))) (fun hNext => ?_)
    clear hKz Kz hOn
    have hOn := hNext
    clear hNext
    try clear hnew
    try clear hS
    try simp only [Act.put, List.setIfInBounds_toArray, List.set_cons_zero, List.set_cons_succ]
    refine wpAnyH_ready (rs := [8, 9]) (by kernel_rfl) (by simp) ?_
    refine AllReadyH.cons (by simp only [List.getElem?_toArray, List.getElem?_cons_succ, List.getElem?_cons_zero]; rfl) (fun Kz hKz => ?_) ?_
    go_simp
    (with_reducible refine (hsh1.out _ _ _ hat7.out (hK.out.below hOn) (hF.out.below hOn)).mono ?_)
    rintro e w8 ⟨rfl, hnew⟩
    have hs8 := hnew.size
    clear hat7
    replace hZ := Lib.hid (rowG hZ.out _ hnew)
    (try replace hz6 := Lib.hid (rowG hz6.out _ hnew))
    go_wp2_with fail
    refine hKz.out _ _ (by first | exact hS | exact Below.trans hOn (Below.mono hnew (Below.size hOn))) (fun hNext => ?_)
    clear hKz Kz hOn
    have hOn := hNext
    clear hNext
    try clear hnew
    try clear hS
    try simp only [Act.put, List.setIfInBounds_toArray, List.set_cons_zero, List.set_cons_succ]
    refine wpAnyH_ready (rs := [9]) (by kernel_rfl) (by simp) ?_
    refine AllReadyH.cons (by simp only [List.getElem?_toArray, List.getElem?_cons_succ, List.getElem?_cons_zero]; rfl) (fun Kz hKz => ?_) AllReadyH.nil
    go_simp
    try go_wp2_with fail
    (with_reducible refine made_step (t := 49) ?_)
    intro w6 hz6 hnew
    have hs6 := hnew.size
    have hl6 := block_lt hz6.out
    have hB6 := hOn.size
    replace hZ := Lib.hid (rowG hZ.out _ hnew)
    (try replace hat7 := Lib.hid (hat7.out.below hnew))
    (try replace hx5 := Lib.hid (rowG hx5.out _ hnew))
    (try replace ho3 := Lib.hid (ownsRow_grown ho3.out hnew))
    refine hKz.out _ _ (by first | exact hS | exact Below.trans hOn (Below.mono hnew (Below.size hOn))) (fun hNext => ?_)
    clear hKz Kz hOn
    have hOn := hNext
    clear hNext
    try clear hnew
    try clear hS
    try simp only [Act.put, List.setIfInBounds_toArray, List.set_cons_zero, List.set_cons_succ]
    refine wpAnyH_ready (rs := [10]) (by kernel_rfl) (by simp) ?_
    refine AllReadyH.cons (by simp only [List.getElem?_toArray, List.getElem?_cons_succ, List.getElem?_cons_zero]; rfl) (fun Kz hKz => ?_) AllReadyH.nil
    rw [if_pos (by rfl)]
    (with_reducible refine wp_store_rowK 49 (.tmp 5) (.tmp 14) rfl _ zero32 D rfl rfl hz6 sD s32 sO ?_)
    intro w9 hU9
    have hS := hOn.trans (hU9.out.below (by omega))
    replace hZ := Lib.hid ((hU9.out.block p (by omega)).trans hZ.out)
    have hd9 := Lib.hid (hargL.out _ _ hU9.out.here)
    clear hz6 hU9
    refine hKz.out _ _ (by first | exact hS | exact Below.trans hOn (Below.mono hnew (Below.size hOn))) (fun hNext => ?_)
    clear hKz Kz hOn
    have hOn := hNext
    clear hNext
    try clear hnew
    try clear hS
    try simp only [Act.put]
    refine wpAnyH_done (by kernel_rfl) ?_ _
    rotate_left
    refine AllReadyH.cons (by simp only [List.getElem?_toArray, List.getElem?_cons_succ, List.getElem?_cons_zero]; rfl) (fun Kz hKz => ?_) AllReadyH.nil
    go_simp
    try go_wp2_with fail
    (with_reducible refine made_step (t := 49) ?_)
    intro w6 hz6 hnew
    have hs6 := hnew.size
    have hl6 := block_lt hz6.out
    have hB6 := hOn.size
    replace hZ := Lib.hid (rowG hZ.out _ hnew)
    (try replace hat7 := Lib.hid (hat7.out.below hnew))
    (try replace hx5 := Lib.hid (rowG hx5.out _ hnew))
    (try replace ho3 := Lib.hid (ownsRow_grown ho3.out hnew))
    refine hKz.out _ _ (by first | exact hS | exact Below.trans hOn (Below.mono hnew (Below.size hOn))) (fun hNext => ?_)
    clear hKz Kz hOn
    have hOn := hNext
    clear hNext
    try clear hnew
    try clear hS
    try simp only [Act.put, List.setIfInBounds_toArray, List.set_cons_zero, List.set_cons_succ]
    refine wpAnyH_ready (rs := [8]) (by kernel_rfl) (by simp) ?_
    refine AllReadyH.cons (by simp only [List.getElem?_toArray, List.getElem?_cons_succ, List.getElem?_cons_zero]; rfl) (fun Kz hKz => ?_) AllReadyH.nil
    go_simp
    (with_reducible refine (hsh1.out _ _ _ hat7.out (hK.out.below hOn) (hF.out.below hOn)).mono ?_)
    rintro e w8 ⟨rfl, hnew⟩
    have hs8 := hnew.size
    clear hat7
    replace hZ := Lib.hid (rowG hZ.out _ hnew)
    (try replace hz6 := Lib.hid (rowG hz6.out _ hnew))
    go_wp2_with fail
    refine hKz.out _ _ (by first | exact hS | exact Below.trans hOn (Below.mono hnew (Below.size hOn))) (fun hNext => ?_)
    clear hKz Kz hOn
    have hOn := hNext
    clear hNext
    try clear hnew
    try clear hS
    try simp only [Act.put, List.setIfInBounds_toArray, List.set_cons_zero, List.set_cons_succ]
    refine wpAnyH_ready (rs := [10]) (by kernel_rfl) (by simp) ?_
    refine AllReadyH.cons (by simp only [List.getElem?_toArray, List.getElem?_cons_succ, List.getElem?_cons_zero]; rfl) (fun Kz hKz => ?_) AllReadyH.nil
    rw [if_pos (by rfl)]
    (with_reducible refine wp_store_rowK 49 (.tmp 5) (.tmp 14) rfl _ zero32 D rfl rfl hz6 sD s32 sO ?_)
    intro w9 hU9
    have hS := hOn.trans (hU9.out.below (by omega))
    replace hZ := Lib.hid ((hU9.out.block p (by omega)).trans hZ.out)
    have hd9 := Lib.hid (hargL.out _ _ hU9.out.here)
    clear hz6 hU9
    refine hKz.out _ _ (by first | exact hS | exact Below.trans hOn (Below.mono hnew (Below.size hOn))) (fun hNext => ?_)
    clear hKz Kz hOn
    have hOn := hNext
    clear hNext
    try clear hnew
    try clear hS
    try simp only [Act.put]
    refine wpAnyH_done (by kernel_rfl) ?_ _
    rotate_left
    refine AllReadyH.cons (by simp only [List.getElem?_toArray, List.getElem?_cons_succ, List.getElem?_cons_zero]; rfl) (fun Kz hKz => ?_) AllReadyH.nil
    go_simp
    try go_wp2_with fail
    (with_reducible refine made_step (t := 49) ?_)
    intro w6 hz6 hnew
    have hs6 := hnew.size
    have hl6 := block_lt hz6.out
    have hB6 := hOn.size
    replace hZ := Lib.hid (rowG hZ.out _ hnew)
    (try replace hat7 := Lib.hid (hat7.out.below hnew))
    (try replace hx5 := Lib.hid (rowG hx5.out _ hnew))
    (try replace ho3 := Lib.hid (ownsRow_grown ho3.out hnew))
    refine hKz.out _ _ (by first | exact hS | exact Below.trans hOn (Below.mono hnew (Below.size hOn))) (fun hNext => ?_)
    clear hKz Kz hOn
    have hOn := hNext
    clear hNext
    try clear hnew
    try clear hS
    try simp only [Act.put, List.setIfInBounds_toArray, List.set_cons_zero, List.set_cons_succ]
    refine wpAnyH_ready (rs := [7]) (by kernel_rfl) (by simp) ?_
    refine AllReadyH.cons (by simp only [List.getElem?_toArray, List.getElem?_cons_succ, List.getElem?_cons_zero]; rfl) (fun Kz hKz => ?_) AllReadyH.nil
    go_simp
    (with_reducible refine (insert_any _ v3 ps.length vs _ _ _ ho3.out hx5.out (fun e => by have := hlo3.out _ e; have := block_lt hx5.out; omega) hvone.out rfl (by omega) (by omega)).mono ?_)
    rintro e w7 ⟨g7, c7, rfl, hat7, hc7, hm7, hg7⟩
    have hb7 := (Below.refl _ _).grown hg7 (by omega) (fun k hk => (hlo3.out k hk).1)
    have hS := hOn.trans (hb7.mono (by omega))
    have hs7 := hg7.size
    replace hZ := Lib.hid (rowGB hZ.out hg7 (fun e => by have := hlo3.out _ e.symm; omega))
    (try replace hz6 := Lib.hid (rowGB hz6.out hg7 (fun e => by have := hlo3.out _ e.symm; omega)))
    clear ho3 hx5 hb7 hg7
    replace hat7 := Lib.hid (hin.out _ hS _ _ hat7 hc7 hm7)
    go_wp2_with fail
    refine hKz.out _ _ (by first | exact hS | exact Below.trans hOn (Below.mono hnew (Below.size hOn))) (fun hNext => ?_)
    clear hKz Kz hOn
    have hOn := hNext
    clear hNext
    try clear hnew
    try clear hS
    try simp only [Act.put, List.setIfInBounds_toArray, List.set_cons_zero, List.set_cons_succ]
    refine wpAnyH_ready (rs := [8]) (by kernel_rfl) (by simp) ?_
    refine AllReadyH.cons (by simp only [List.getElem?_toArray, List.getElem?_cons_succ, List.getElem?_cons_zero]; rfl) (fun Kz hKz => ?_) AllReadyH.nil
    go_simp
    (with_reducible refine (hsh1.out _ _ _ hat7.out (hK.out.below hOn) (hF.out.below hOn)).mono ?_)
    rintro e w8 ⟨rfl, hnew⟩
    have hs8 := hnew.size
    clear hat7
    replace hZ := Lib.hid (rowG hZ.out _ hnew)
    (try replace hz6 := Lib.hid (rowG hz6.out _ hnew))
    go_wp2_with fail
    refine hKz.out _ _ (by first | exact hS | exact Below.trans hOn (Below.mono hnew (Below.size hOn))) (fun hNext => ?_)
    clear hKz Kz hOn
    have hOn := hNext
    clear hNext
    try clear hnew
    try clear hS
    try simp only [Act.put, List.setIfInBounds_toArray, List.set_cons_zero, List.set_cons_succ]
    refine wpAnyH_ready (rs := [10]) (by kernel_rfl) (by simp) ?_
    refine AllReadyH.cons (by simp only [List.getElem?_toArray, List.getElem?_cons_succ, List.getElem?_cons_zero]; rfl) (fun Kz hKz => ?_) AllReadyH.nil
    rw [if_pos (by rfl)]
    (with_reducible refine wp_store_rowK 49 (.tmp 5) (.tmp 14) rfl _ zero32 D rfl rfl hz6 sD s32 sO ?_)
    intro w9 hU9
    have hS := hOn.trans (hU9.out.below (by omega))
    replace hZ := Lib.hid ((hU9.out.block p (by omega)).trans hZ.out)
    have hd9 := Lib.hid (hargL.out _ _ hU9.out.here)
    clear hz6 hU9
    refine hKz.out _ _ (by first | exact hS | exact Below.trans hOn (Below.mono hnew (Below.size hOn))) (fun hNext => ?_)
    clear hKz Kz hOn
    have hOn := hNext
    clear hNext
    try clear hnew
    try clear hS
    try simp only [Act.put]
    refine wpAnyH_done (by kernel_rfl) ?_ _
    rotate_left
    refine AllReadyH.cons (by simp only [List.getElem?_toArray, List.getElem?_cons_succ, List.getElem?_cons_zero]; rfl) (fun Kz hKz => ?_) AllReadyH.nil
    go_simp
    try go_wp2_with fail
    (with_reducible refine made_step (t := 49) ?_)
    intro w6 hz6 hnew
    have hs6 := hnew.size
    have hl6 := block_lt hz6.out
    have hB6 := hOn.size
    replace hZ := Lib.hid (rowG hZ.out _ hnew)
    (try replace hat7 := Lib.hid (hat7.out.below hnew))
    (try replace hx5 := Lib.hid (rowG hx5.out _ hnew))
    (try replace ho3 := Lib.hid (ownsRow_grown ho3.out hnew))
    refine hKz.out _ _ (by first | exact hS | exact Below.trans hOn (Below.mono hnew (Below.size hOn))) (fun hNext => ?_)
    clear hKz Kz hOn
    have hOn := hNext
    clear hNext
    try clear hnew
    try clear hS
    try simp only [Act.put, List.setIfInBounds_toArray, List.set_cons_zero, List.set_cons_succ]
    refine wpAnyH_ready (rs := [6]) (by kernel_rfl) (by simp) ?_
    refine AllReadyH.cons (by simp only [List.getElem?_toArray, List.getElem?_cons_succ, List.getElem?_cons_zero]; rfl) (fun Kz hKz => ?_) AllReadyH.nil
    go_simp
    try go_wp2_with fail
    (with_reducible refine made_step (t := 22) ?_)
    intro w5 hx5 hnew
    have hs5 := hnew.size
    have hl5 := block_lt hx5.out
    replace hZ := Lib.hid (rowG hZ.out _ hnew)
    (try replace hz6 := Lib.hid (rowG hz6.out _ hnew))
    (try replace ho3 := Lib.hid (ownsRow_grown ho3.out hnew))
    refine hKz.out _ _ (by first | exact hS | exact Below.trans hOn (Below.mono hnew (Below.size hOn))) (fun hNext => ?_)
    clear hKz Kz hOn
    have hOn := hNext
    clear hNext
    try clear hnew
    try clear hS
    try simp only [Act.put, List.setIfInBounds_toArray, List.set_cons_zero, List.set_cons_succ]
    refine wpAnyH_ready (rs := [7]) (by kernel_rfl) (by simp) ?_
    refine AllReadyH.cons (by simp only [List.getElem?_toArray, List.getElem?_cons_succ, List.getElem?_cons_zero]; rfl) (fun Kz hKz => ?_) AllReadyH.nil
    go_simp
    (with_reducible refine (insert_any _ v3 ps.length vs _ _ _ ho3.out hx5.out (fun e => by have := hlo3.out _ e; have := block_lt hx5.out; omega) hvone.out rfl (by omega) (by omega)).mono ?_)
    rintro e w7 ⟨g7, c7, rfl, hat7, hc7, hm7, hg7⟩
    have hb7 := (Below.refl _ _).grown hg7 (by omega) (fun k hk => (hlo3.out k hk).1)
    have hS := hOn.trans (hb7.mono (by omega))
    have hs7 := hg7.size
    replace hZ := Lib.hid (rowGB hZ.out hg7 (fun e => by have := hlo3.out _ e.symm; omega))
    (try replace hz6 := Lib.hid (rowGB hz6.out hg7 (fun e => by have := hlo3.out _ e.symm; omega)))
    clear ho3 hx5 hb7 hg7
    replace hat7 := Lib.hid (hin.out _ hS _ _ hat7 hc7 hm7)
    go_wp2_with fail
    refine hKz.out _ _ (by first | exact hS | exact Below.trans hOn (Below.mono hnew (Below.size hOn))) (fun hNext => ?_)
    clear hKz Kz hOn
    have hOn := hNext
    clear hNext
    try clear hnew
    try clear hS
    try simp only [Act.put, List.setIfInBounds_toArray, List.set_cons_zero, List.set_cons_succ]
    refine wpAnyH_ready (rs := [8]) (by kernel_rfl) (by simp) ?_
    refine AllReadyH.cons (by simp only [List.getElem?_toArray, List.getElem?_cons_succ, List.getElem?_cons_zero]; rfl) (fun Kz hKz => ?_) AllReadyH.nil
    go_simp
    (with_reducible refine (hsh1.out _ _ _ hat7.out (hK.out.below hOn) (hF.out.below hOn)).mono ?_)
    rintro e w8 ⟨rfl, hnew⟩
    have hs8 := hnew.size
    clear hat7
    replace hZ := Lib.hid (rowG hZ.out _ hnew)
    (try replace hz6 := Lib.hid (rowG hz6.out _ hnew))
    go_wp2_with fail
    refine hKz.out _ _ (by first | exact hS | exact Below.trans hOn (Below.mono hnew (Below.size hOn))) (fun hNext => ?_)
    clear hKz Kz hOn
    have hOn := hNext
    clear hNext
    try clear hnew
    try clear hS
    try simp only [Act.put, List.setIfInBounds_toArray, List.set_cons_zero, List.set_cons_succ]
    refine wpAnyH_ready (rs := [10]) (by kernel_rfl) (by simp) ?_
    refine AllReadyH.cons (by simp only [List.getElem?_toArray, List.getElem?_cons_succ, List.getElem?_cons_zero]; rfl) (fun Kz hKz => ?_) AllReadyH.nil
    rw [if_pos (by rfl)]
    (with_reducible refine wp_store_rowK 49 (.tmp 5) (.tmp 14) rfl _ zero32 D rfl rfl hz6 sD s32 sO ?_)
    intro w9 hU9
    have hS := hOn.trans (hU9.out.below (by omega))
    replace hZ := Lib.hid ((hU9.out.block p (by omega)).trans hZ.out)
    have hd9 := Lib.hid (hargL.out _ _ hU9.out.here)
    clear hz6 hU9
    refine hKz.out _ _ (by first | exact hS | exact Below.trans hOn (Below.mono hnew (Below.size hOn))) (fun hNext => ?_)
    clear hKz Kz hOn
    have hOn := hNext
    clear hNext
    try clear hnew
    try clear hS
    try simp only [Act.put]
    refine wpAnyH_done (by kernel_rfl) ?_ _
    rotate_left
    refine AllReadyH.cons (by simp only [List.getElem?_toArray, List.getElem?_cons_succ, List.getElem?_cons_zero]; rfl) (fun Kz hKz => ?_) ?_
    go_simp
    try go_wp2_with fail
    (with_reducible refine made_step (t := 22) ?_)
    intro w5 hx5 hnew
    have hs5 := hnew.size
    have hl5 := block_lt hx5.out
    replace hZ := Lib.hid (rowG hZ.out _ hnew)
    (try replace hz6 := Lib.hid (rowG hz6.out _ hnew))
    (try replace ho3 := Lib.hid (ownsRow_grown ho3.out hnew))
    refine hKz.out _ _ (by first | exact hS | exact Below.trans hOn (Below.mono hnew (Below.size hOn))) (fun hNext => ?_)
    clear hKz Kz hOn
    have hOn := hNext
    clear hNext
    try clear hnew
    try clear hS
    try simp only [Act.put, List.setIfInBounds_toArray, List.set_cons_zero, List.set_cons_succ]
    refine wpAnyH_ready (rs := [1, 9]) (by kernel_rfl) (by simp) ?_
    refine AllReadyH.cons (by simp only [List.getElem?_toArray, List.getElem?_cons_succ, List.getElem?_cons_zero]; rfl) (fun Kz hKz => ?_) ?_
    go_simp
    (with_reducible refine (hcl.out _ hOn).mono ?_)
    rintro e w3 ⟨v3, rfl, ho3, hnew⟩
    have hlo3 := ownBlock_ge ho3
    have hs3 := hnew.size
    replace hZ := Lib.hid (rowG hZ.out _ hnew)
    (try replace hz6 := Lib.hid (rowG hz6.out _ hnew))
    (try replace hx5 := Lib.hid (rowG hx5.out _ hnew))
    replace ho3 := Lib.hid ho3
    replace hlo3 := Lib.hid hlo3
    have hB3 := hOn.size
    have hlt3 := hlt
    go_wp2_with fail
    refine hKz.out _ _ (by first | exact hS | exact Below.trans hOn (Below.mono hnew (Below.size hOn))) (fun hNext => ?_)
    clear hKz Kz hOn
    have hOn := hNext
    clear hNext
    try clear hnew
    try clear hS
    try simp only [Act.put, List.setIfInBounds_toArray, List.set_cons_zero, List.set_cons_succ]
    refine wpAnyH_ready (rs := [7, 9]) (by kernel_rfl) (by simp) ?_
    refine AllReadyH.cons (by simp only [List.getElem?_toArray, List.getElem?_cons_succ, List.getElem?_cons_zero]; rfl) (fun Kz hKz => ?_) ?_
    go_simp
    (with_reducible refine (insert_any _ v3 ps.length vs _ _ _ ho3.out hx5.out (fun e => by have := hlo3.out _ e; have := block_lt hx5.out; omega) hvone.out rfl (by omega) (by omega)).mono ?_)
    rintro e w7 ⟨g7, c7, rfl, hat7, hc7, hm7, hg7⟩
    have hb7 := (Below.refl _ _).grown hg7 (by omega) (fun k hk => (hlo3.out k hk).1)
    have hS := hOn.trans (hb7.mono (by omega))
    have hs7 := hg7.size
    replace hZ := Lib.hid (rowGB hZ.out hg7 (fun e => by have := hlo3.out _ e.symm; omega))
    (try replace hz6 := Lib.hid (rowGB hz6.out hg7 (fun e => by have := hlo3.out _ e.symm; omega)))
    clear ho3 hx5 hb7 hg7
    replace hat7 := Lib.hid (hin.out _ hS _ _ hat7 hc7 hm7)
    go_wp2_with fail
    refine hKz.out _ _ (by first | exact hS | exact Below.trans hOn (Below.mono hnew (Below.size hOn))) (fun hNext => ?_)
    clear hKz Kz hOn
    have hOn := hNext
    clear hNext
    try clear hnew
    try clear hS
    try simp only [Act.put, List.setIfInBounds_toArray, List.set_cons_zero, List.set_cons_succ]
    refine wpAnyH_ready (rs := [8, 9]) (by kernel_rfl) (by simp) ?_
    refine AllReadyH.cons (by simp only [List.getElem?_toArray, List.getElem?_cons_succ, List.getElem?_cons_zero]; rfl) (fun Kz hKz => ?_) ?_
    go_simp
    (with_reducible refine (hsh1.out _ _ _ hat7.out (hK.out.below hOn) (hF.out.below hOn)).mono ?_)
    rintro e w8 ⟨rfl, hnew⟩
    have hs8 := hnew.size
    clear hat7
    replace hZ := Lib.hid (rowG hZ.out _ hnew)
    (try replace hz6 := Lib.hid (rowG hz6.out _ hnew))
    go_wp2_with fail
    refine hKz.out _ _ (by first | exact hS | exact Below.trans hOn (Below.mono hnew (Below.size hOn))) (fun hNext => ?_)
    clear hKz Kz hOn
    have hOn := hNext
    clear hNext
    try clear hnew
    try clear hS
    try simp only [Act.put, List.setIfInBounds_toArray, List.set_cons_zero, List.set_cons_succ]
    refine wpAnyH_ready (rs := [9]) (by kernel_rfl) (by simp) ?_
    refine AllReadyH.cons (by simp only [List.getElem?_toArray, List.getElem?_cons_succ, List.getElem?_cons_zero]; rfl) (fun Kz hKz => ?_) AllReadyH.nil
    go_simp
    try go_wp2_with fail
    (with_reducible refine made_step (t := 49) ?_)
    intro w6 hz6 hnew
    have hs6 := hnew.size
    have hl6 := block_lt hz6.out
    have hB6 := hOn.size
    replace hZ := Lib.hid (rowG hZ.out _ hnew)
    (try replace hat7 := Lib.hid (hat7.out.below hnew))
    (try replace hx5 := Lib.hid (rowG hx5.out _ hnew))
    (try replace ho3 := Lib.hid (ownsRow_grown ho3.out hnew))
    refine hKz.out _ _ (by first | exact hS | exact Below.trans hOn (Below.mono hnew (Below.size hOn))) (fun hNext => ?_)
    clear hKz Kz hOn
    have hOn := hNext
    clear hNext
    try clear hnew
    try clear hS
    try simp only [Act.put, List.setIfInBounds_toArray, List.set_cons_zero, List.set_cons_succ]
    refine wpAnyH_ready (rs := [10]) (by kernel_rfl) (by simp) ?_
    refine AllReadyH.cons (by simp only [List.getElem?_toArray, List.getElem?_cons_succ, List.getElem?_cons_zero]; rfl) (fun Kz hKz => ?_) AllReadyH.nil
    rw [if_pos (by rfl)]
    (with_reducible refine wp_store_rowK 49 (.tmp 5) (.tmp 14) rfl _ zero32 D rfl rfl hz6 sD s32 sO ?_)
    intro w9 hU9
    have hS := hOn.trans (hU9.out.below (by omega))
    replace hZ := Lib.hid ((hU9.out.block p (by omega)).trans hZ.out)
    have hd9 := Lib.hid (hargL.out _ _ hU9.out.here)
    clear hz6 hU9
    refine hKz.out _ _ (by first | exact hS | exact Below.trans hOn (Below.mono hnew (Below.size hOn))) (fun hNext => ?_)
    clear hKz Kz hOn
    have hOn := hNext
    clear hNext
    try clear hnew
    try clear hS
    try simp only [Act.put]
    refine wpAnyH_done (by kernel_rfl) ?_ _
    rotate_left
    refine AllReadyH.cons (by simp only [List.getElem?_toArray, List.getElem?_cons_succ, List.getElem?_cons_zero]; rfl) (fun Kz hKz => ?_) AllReadyH.nil
    go_simp
    try go_wp2_with fail
    (with_reducible refine made_step (t := 49) ?_)
    intro w6 hz6 hnew
    have hs6 := hnew.size
    have hl6 := block_lt hz6.out
    have hB6 := hOn.size
    replace hZ := Lib.hid (rowG hZ.out _ hnew)
    (try replace hat7 := Lib.hid (hat7.out.below hnew))
    (try replace hx5 := Lib.hid (rowG hx5.out _ hnew))
    (try replace ho3 := Lib.hid (ownsRow_grown ho3.out hnew))
    refine hKz.out _ _ (by first | exact hS | exact Below.trans hOn (Below.mono hnew (Below.size hOn))) (fun hNext => ?_)
    clear hKz Kz hOn
    have hOn := hNext
    clear hNext
    try clear hnew
    try clear hS
    try simp only [Act.put, List.setIfInBounds_toArray, List.set_cons_zero, List.set_cons_succ]
    refine wpAnyH_ready (rs := [8]) (by kernel_rfl) (by simp) ?_
    refine AllReadyH.cons (by simp only [List.getElem?_toArray, List.getElem?_cons_succ, List.getElem?_cons_zero]; rfl) (fun Kz hKz => ?_) AllReadyH.nil
    go_simp
    (with_reducible refine (hsh1.out _ _ _ hat7.out (hK.out.below hOn) (hF.out.below hOn)).mono ?_)
    rintro e w8 ⟨rfl, hnew⟩
    have hs8 := hnew.size
    clear hat7
    replace hZ := Lib.hid (rowG hZ.out _ hnew)
    (try replace hz6 := Lib.hid (rowG hz6.out _ hnew))
    go_wp2_with fail
    refine hKz.out _ _ (by first | exact hS | exact Below.trans hOn (Below.mono hnew (Below.size hOn))) (fun hNext => ?_)
    clear hKz Kz hOn
    have hOn := hNext
    clear hNext
    try clear hnew
    try clear hS
    try simp only [Act.put, List.setIfInBounds_toArray, List.set_cons_zero, List.set_cons_succ]
    refine wpAnyH_ready (rs := [10]) (by kernel_rfl) (by simp) ?_
    refine AllReadyH.cons (by simp only [List.getElem?_toArray, List.getElem?_cons_succ, List.getElem?_cons_zero]; rfl) (fun Kz hKz => ?_) AllReadyH.nil
    rw [if_pos (by rfl)]
    (with_reducible refine wp_store_rowK 49 (.tmp 5) (.tmp 14) rfl _ zero32 D rfl rfl hz6 sD s32 sO ?_)
    intro w9 hU9
    have hS := hOn.trans (hU9.out.below (by omega))
    replace hZ := Lib.hid ((hU9.out.block p (by omega)).trans hZ.out)
    have hd9 := Lib.hid (hargL.out _ _ hU9.out.here)
    clear hz6 hU9
    refine hKz.out _ _ (by first | exact hS | exact Below.trans hOn (Below.mono hnew (Below.size hOn))) (fun hNext => ?_)
    clear hKz Kz hOn
    have hOn := hNext
    clear hNext
    try clear hnew
    try clear hS
    try simp only [Act.put]
    refine wpAnyH_done (by kernel_rfl) ?_ _
    rotate_left
    refine AllReadyH.cons (by simp only [List.getElem?_toArray, List.getElem?_cons_succ, List.getElem?_cons_zero]; rfl) (fun Kz hKz => ?_) AllReadyH.nil
    go_simp
    try go_wp2_with fail
    (with_reducible refine made_step (t := 49) ?_)
    intro w6 hz6 hnew
    have hs6 := hnew.size
    have hl6 := block_lt hz6.out
    have hB6 := hOn.size
    replace hZ := Lib.hid (rowG hZ.out _ hnew)
    (try replace hat7 := Lib.hid (hat7.out.below hnew))
    (try replace hx5 := Lib.hid (rowG hx5.out _ hnew))
    (try replace ho3 := Lib.hid (ownsRow_grown ho3.out hnew))
    refine hKz.out _ _ (by first | exact hS | exact Below.trans hOn (Below.mono hnew (Below.size hOn))) (fun hNext => ?_)
    clear hKz Kz hOn
    have hOn := hNext
    clear hNext
    try clear hnew
    try clear hS
    try simp only [Act.put, List.setIfInBounds_toArray, List.set_cons_zero, List.set_cons_succ]
    refine wpAnyH_ready (rs := [7]) (by kernel_rfl) (by simp) ?_
    refine AllReadyH.cons (by simp only [List.getElem?_toArray, List.getElem?_cons_succ, List.getElem?_cons_zero]; rfl) (fun Kz hKz => ?_) AllReadyH.nil
    go_simp
    (with_reducible refine (insert_any _ v3 ps.length vs _ _ _ ho3.out hx5.out (fun e => by have := hlo3.out _ e; have := block_lt hx5.out; omega) hvone.out rfl (by omega) (by omega)).mono ?_)
    rintro e w7 ⟨g7, c7, rfl, hat7, hc7, hm7, hg7⟩
    have hb7 := (Below.refl _ _).grown hg7 (by omega) (fun k hk => (hlo3.out k hk).1)
    have hS := hOn.trans (hb7.mono (by omega))
    have hs7 := hg7.size
    replace hZ := Lib.hid (rowGB hZ.out hg7 (fun e => by have := hlo3.out _ e.symm; omega))
    (try replace hz6 := Lib.hid (rowGB hz6.out hg7 (fun e => by have := hlo3.out _ e.symm; omega)))
    clear ho3 hx5 hb7 hg7
    replace hat7 := Lib.hid (hin.out _ hS _ _ hat7 hc7 hm7)
    go_wp2_with fail
    refine hKz.out _ _ (by first | exact hS | exact Below.trans hOn (Below.mono hnew (Below.size hOn))) (fun hNext => ?_)
    clear hKz Kz hOn
    have hOn := hNext
    clear hNext
    try clear hnew
    try clear hS
    try simp only [Act.put, List.setIfInBounds_toArray, List.set_cons_zero, List.set_cons_succ]
    refine wpAnyH_ready (rs := [8]) (by kernel_rfl) (by simp) ?_
    refine AllReadyH.cons (by simp only [List.getElem?_toArray, List.getElem?_cons_succ, List.getElem?_cons_zero]; rfl) (fun Kz hKz => ?_) AllReadyH.nil
    go_simp
    (with_reducible refine (hsh1.out _ _ _ hat7.out (hK.out.below hOn) (hF.out.below hOn)).mono ?_)
    rintro e w8 ⟨rfl, hnew⟩
    have hs8 := hnew.size
    clear hat7
    replace hZ := Lib.hid (rowG hZ.out _ hnew)
    (try replace hz6 := Lib.hid (rowG hz6.out _ hnew))
    go_wp2_with fail
    refine hKz.out _ _ (by first | exact hS | exact Below.trans hOn (Below.mono hnew (Below.size hOn))) (fun hNext => ?_)
    clear hKz Kz hOn
    have hOn := hNext
    clear hNext
    try clear hnew
    try clear hS
    try simp only [Act.put, List.setIfInBounds_toArray, List.set_cons_zero, List.set_cons_succ]
    refine wpAnyH_ready (rs := [10]) (by kernel_rfl) (by simp) ?_
    refine AllReadyH.cons (by simp only [List.getElem?_toArray, List.getElem?_cons_succ, List.getElem?_cons_zero]; rfl) (fun Kz hKz => ?_) AllReadyH.nil
    rw [if_pos (by rfl)]
    (with_reducible refine wp_store_rowK 49 (.tmp 5) (.tmp 14) rfl _ zero32 D rfl rfl hz6 sD s32 sO ?_)
    intro w9 hU9
    have hS := hOn.trans (hU9.out.below (by omega))
    replace hZ := Lib.hid ((hU9.out.block p (by omega)).trans hZ.out)
    have hd9 := Lib.hid (hargL.out _ _ hU9.out.here)
    clear hz6 hU9
    refine hKz.out _ _ (by first | exact hS | exact Below.trans hOn (Below.mono hnew (Below.size hOn))) (fun hNext => ?_)
    clear hKz Kz hOn
    have hOn := hNext
    clear hNext
    try clear hnew
    try clear hS
    try simp only [Act.put]
    refine wpAnyH_done (by kernel_rfl) ?_ _
    rotate_left
    refine AllReadyH.cons (by simp only [List.getElem?_toArray, List.getElem?_cons_succ, List.getElem?_cons_zero]; rfl) (fun Kz hKz => ?_) AllReadyH.nil
    go_simp
    try go_wp2_with fail
    (with_reducible refine made_step (t := 49) ?_)
    intro w6 hz6 hnew
    have hs6 := hnew.size
    have hl6 := block_lt hz6.out
    have hB6 := hOn.size
    replace hZ := Lib.hid (rowG hZ.out _ hnew)
    (try replace hat7 := Lib.hid (hat7.out.below hnew))
    (try replace hx5 := Lib.hid (rowG hx5.out _ hnew))
    (try replace ho3 := Lib.hid (ownsRow_grown ho3.out hnew))
    refine hKz.out _ _ (by first | exact hS | exact Below.trans hOn (Below.mono hnew (Below.size hOn))) (fun hNext => ?_)
    clear hKz Kz hOn
    have hOn := hNext
    clear hNext
    try clear hnew
    try clear hS
    try simp only [Act.put, List.setIfInBounds_toArray, List.set_cons_zero, List.set_cons_succ]
    refine wpAnyH_ready (rs := [1]) (by kernel_rfl) (by simp) ?_
    refine AllReadyH.cons (by simp only [List.getElem?_toArray, List.getElem?_cons_succ, List.getElem?_cons_zero]; rfl) (fun Kz hKz => ?_) AllReadyH.nil
    go_simp
    (with_reducible refine (hcl.out _ hOn).mono ?_)
    rintro e w3 ⟨v3, rfl, ho3, hnew⟩
    have hlo3 := ownBlock_ge ho3
    have hs3 := hnew.size
    replace hZ := Lib.hid (rowG hZ.out _ hnew)
    (try replace hz6 := Lib.hid (rowG hz6.out _ hnew))
    (try replace hx5 := Lib.hid (rowG hx5.out _ hnew))
    replace ho3 := Lib.hid ho3
    replace hlo3 := Lib.hid hlo3
    have hB3 := hOn.size
    have hlt3 := hlt
    go_wp2_with fail
    refine hKz.out _ _ (by first | exact hS | exact Below.trans hOn (Below.mono hnew (Below.size hOn))) (fun hNext => ?_)
    clear hKz Kz hOn
    have hOn := hNext
    clear hNext
    try clear hnew
    try clear hS
    try simp only [Act.put, List.setIfInBounds_toArray, List.set_cons_zero, List.set_cons_succ]
    refine wpAnyH_ready (rs := [7]) (by kernel_rfl) (by simp) ?_
    refine AllReadyH.cons (by simp only [List.getElem?_toArray, List.getElem?_cons_succ, List.getElem?_cons_zero]; rfl) (fun Kz hKz => ?_) AllReadyH.nil
    go_simp
    (with_reducible refine (insert_any _ v3 ps.length vs _ _ _ ho3.out hx5.out (fun e => by have := hlo3.out _ e; have := block_lt hx5.out; omega) hvone.out rfl (by omega) (by omega)).mono ?_)
    rintro e w7 ⟨g7, c7, rfl, hat7, hc7, hm7, hg7⟩
    have hb7 := (Below.refl _ _).grown hg7 (by omega) (fun k hk => (hlo3.out k hk).1)
    have hS := hOn.trans (hb7.mono (by omega))
    have hs7 := hg7.size
    replace hZ := Lib.hid (rowGB hZ.out hg7 (fun e => by have := hlo3.out _ e.symm; omega))
    (try replace hz6 := Lib.hid (rowGB hz6.out hg7 (fun e => by have := hlo3.out _ e.symm; omega)))
    clear ho3 hx5 hb7 hg7
    replace hat7 := Lib.hid (hin.out _ hS _ _ hat7 hc7 hm7)
    go_wp2_with fail
    refine hKz.out _ _ (by first | exact hS | exact Below.trans hOn (Below.mono hnew (Below.size hOn))) (fun hNext => ?_)
    clear hKz Kz hOn
    have hOn := hNext
    clear hNext
    try clear hnew
    try clear hS
    try simp only [Act.put, List.setIfInBounds_toArray, List.set_cons_zero, List.set_cons_succ]
    refine wpAnyH_ready (rs := [8]) (by kernel_rfl) (by simp) ?_
    refine AllReadyH.cons (by simp only [List.getElem?_toArray, List.getElem?_cons_succ, List.getElem?_cons_zero]; rfl) (fun Kz hKz => ?_) AllReadyH.nil
    go_simp
    (with_reducible refine (hsh1.out _ _ _ hat7.out (hK.out.below hOn) (hF.out.below hOn)).mono ?_)
    rintro e w8 ⟨rfl, hnew⟩
    have hs8 := hnew.size
    clear hat7
    replace hZ := Lib.hid (rowG hZ.out _ hnew)
    (try replace hz6 := Lib.hid (rowG hz6.out _ hnew))
    go_wp2_with fail
    refine hKz.out _ _ (by first | exact hS | exact Below.trans hOn (Below.mono hnew (Below.size hOn))) (fun hNext => ?_)
    clear hKz Kz hOn
    have hOn := hNext
    clear hNext
    try clear hnew
    try clear hS
    try simp only [Act.put, List.setIfInBounds_toArray, List.set_cons_zero, List.set_cons_succ]
    refine wpAnyH_ready (rs := [10]) (by kernel_rfl) (by simp) ?_
    refine AllReadyH.cons (by simp only [List.getElem?_toArray, List.getElem?_cons_succ, List.getElem?_cons_zero]; rfl) (fun Kz hKz => ?_) AllReadyH.nil
    rw [if_pos (by rfl)]
    (with_reducible refine wp_store_rowK 49 (.tmp 5) (.tmp 14) rfl _ zero32 D rfl rfl hz6 sD s32 sO ?_)
    intro w9 hU9
    have hS := hOn.trans (hU9.out.below (by omega))
    replace hZ := Lib.hid ((hU9.out.block p (by omega)).trans hZ.out)
    have hd9 := Lib.hid (hargL.out _ _ hU9.out.here)
    clear hz6 hU9
    refine hKz.out _ _ (by first | exact hS | exact Below.trans hOn (Below.mono hnew (Below.size hOn))) (fun hNext => ?_)
    clear hKz Kz hOn
    have hOn := hNext
    clear hNext
    try clear hnew
    try clear hS
    try simp only [Act.put]
    refine wpAnyH_done (by kernel_rfl) ?_ _
    rotate_left
    refine AllReadyH.cons (by simp only [List.getElem?_toArray, List.getElem?_cons_succ, List.getElem?_cons_zero]; rfl) (fun Kz hKz => ?_) AllReadyH.nil
    go_simp
    try go_wp2_with fail
    (with_reducible refine made_step (t := 49) ?_)
    intro w6 hz6 hnew
    have hs6 := hnew.size
    have hl6 := block_lt hz6.out
    have hB6 := hOn.size
    replace hZ := Lib.hid (rowG hZ.out _ hnew)
    (try replace hat7 := Lib.hid (hat7.out.below hnew))
    (try replace hx5 := Lib.hid (rowG hx5.out _ hnew))
    (try replace ho3 := Lib.hid (ownsRow_grown ho3.out hnew))
    refine hKz.out _ _ (by first | exact hS | exact Below.trans hOn (Below.mono hnew (Below.size hOn))) (fun hNext => ?_)
    clear hKz Kz hOn
    have hOn := hNext
    clear hNext
    try clear hnew
    try clear hS
    try simp only [Act.put, List.setIfInBounds_toArray, List.set_cons_zero, List.set_cons_succ]
    refine wpAnyH_ready (rs := [1, 6]) (by kernel_rfl) (by simp) ?_
    refine AllReadyH.cons (by simp only [List.getElem?_toArray, List.getElem?_cons_succ, List.getElem?_cons_zero]; rfl) (fun Kz hKz => ?_) ?_
    go_simp
    (with_reducible refine (hcl.out _ hOn).mono ?_)
    rintro e w3 ⟨v3, rfl, ho3, hnew⟩
    have hlo3 := ownBlock_ge ho3
    have hs3 := hnew.size
    replace hZ := Lib.hid (rowG hZ.out _ hnew)
    (try replace hz6 := Lib.hid (rowG hz6.out _ hnew))
    (try replace hx5 := Lib.hid (rowG hx5.out _ hnew))
    replace ho3 := Lib.hid ho3
    replace hlo3 := Lib.hid hlo3
    have hB3 := hOn.size
    have hlt3 := hlt
    go_wp2_with fail
    refine hKz.out _ _ (by first | exact hS | exact Below.trans hOn (Below.mono hnew (Below.size hOn))) (fun hNext => ?_)
    clear hKz Kz hOn
    have hOn := hNext
    clear hNext
    try clear hnew
    try clear hS
    try simp only [Act.put, List.setIfInBounds_toArray, List.set_cons_zero, List.set_cons_succ]
    refine wpAnyH_ready (rs := [6]) (by kernel_rfl) (by simp) ?_
    refine AllReadyH.cons (by simp only [List.getElem?_toArray, List.getElem?_cons_succ, List.getElem?_cons_zero]; rfl) (fun Kz hKz => ?_) AllReadyH.nil
    go_simp
    try go_wp2_with fail
    (with_reducible refine made_step (t := 22) ?_)
    intro w5 hx5 hnew
    have hs5 := hnew.size
    have hl5 := block_lt hx5.out
    replace hZ := Lib.hid (rowG hZ.out _ hnew)
    (try replace hz6 := Lib.hid (rowG hz6.out _ hnew))
    (try replace ho3 := Lib.hid (ownsRow_grown ho3.out hnew))
    refine hKz.out _ _ (by first | exact hS | exact Below.trans hOn (Below.mono hnew (Below.size hOn))) (fun hNext => ?_)
    clear hKz Kz hOn
    have hOn := hNext
    clear hNext
    try clear hnew
    try clear hS
    try simp only [Act.put, List.setIfInBounds_toArray, List.set_cons_zero, List.set_cons_succ]
    refine wpAnyH_ready (rs := [7]) (by kernel_rfl) (by simp) ?_
    refine AllReadyH.cons (by simp only [List.getElem?_toArray, List.getElem?_cons_succ, List.getElem?_cons_zero]; rfl) (fun Kz hKz => ?_) AllReadyH.nil
    go_simp
    (with_reducible refine (insert_any _ v3 ps.length vs _ _ _ ho3.out hx5.out (fun e => by have := hlo3.out _ e; have := block_lt hx5.out; omega) hvone.out rfl (by omega) (by omega)).mono ?_)
    rintro e w7 ⟨g7, c7, rfl, hat7, hc7, hm7, hg7⟩
    have hb7 := (Below.refl _ _).grown hg7 (by omega) (fun k hk => (hlo3.out k hk).1)
    have hS := hOn.trans (hb7.mono (by omega))
    have hs7 := hg7.size
    replace hZ := Lib.hid (rowGB hZ.out hg7 (fun e => by have := hlo3.out _ e.symm; omega))
    (try replace hz6 := Lib.hid (rowGB hz6.out hg7 (fun e => by have := hlo3.out _ e.symm; omega)))
    clear ho3 hx5 hb7 hg7
    replace hat7 := Lib.hid (hin.out _ hS _ _ hat7 hc7 hm7)
    go_wp2_with fail
    refine hKz.out _ _ (by first | exact hS | exact Below.trans hOn (Below.mono hnew (Below.size hOn))) (fun hNext => ?_)
    clear hKz Kz hOn
    have hOn := hNext
    clear hNext
    try clear hnew
    try clear hS
    try simp only [Act.put, List.setIfInBounds_toArray, List.set_cons_zero, List.set_cons_succ]
    refine wpAnyH_ready (rs := [8]) (by kernel_rfl) (by simp) ?_
    refine AllReadyH.cons (by simp only [List.getElem?_toArray, List.getElem?_cons_succ, List.getElem?_cons_zero]; rfl) (fun Kz hKz => ?_) AllReadyH.nil
    go_simp
    (with_reducible refine (hsh1.out _ _ _ hat7.out (hK.out.below hOn) (hF.out.below hOn)).mono ?_)
    rintro e w8 ⟨rfl, hnew⟩
    have hs8 := hnew.size
    clear hat7
    replace hZ := Lib.hid (rowG hZ.out _ hnew)
    (try replace hz6 := Lib.hid (rowG hz6.out _ hnew))
    go_wp2_with fail
    refine hKz.out _ _ (by first | exact hS | exact Below.trans hOn (Below.mono hnew (Below.size hOn))) (fun hNext => ?_)
    clear hKz Kz hOn
    have hOn := hNext
    clear hNext
    try clear hnew
    try clear hS
    try simp only [Act.put, List.setIfInBounds_toArray, List.set_cons_zero, List.set_cons_succ]
    refine wpAnyH_ready (rs := [10]) (by kernel_rfl) (by simp) ?_
    refine AllReadyH.cons (by simp only [List.getElem?_toArray, List.getElem?_cons_succ, List.getElem?_cons_zero]; rfl) (fun Kz hKz => ?_) AllReadyH.nil
    rw [if_pos (by rfl)]
    (with_reducible refine wp_store_rowK 49 (.tmp 5) (.tmp 14) rfl _ zero32 D rfl rfl hz6 sD s32 sO ?_)
    intro w9 hU9
    have hS := hOn.trans (hU9.out.below (by omega))
    replace hZ := Lib.hid ((hU9.out.block p (by omega)).trans hZ.out)
    have hd9 := Lib.hid (hargL.out _ _ hU9.out.here)
    clear hz6 hU9
    refine hKz.out _ _ (by first | exact hS | exact Below.trans hOn (Below.mono hnew (Below.size hOn))) (fun hNext => ?_)
    clear hKz Kz hOn
    have hOn := hNext
    clear hNext
    try clear hnew
    try clear hS
    try simp only [Act.put]
    refine wpAnyH_done (by kernel_rfl) ?_ _
    rotate_left
    refine AllReadyH.cons (by simp only [List.getElem?_toArray, List.getElem?_cons_succ, List.getElem?_cons_zero]; rfl) (fun Kz hKz => ?_) AllReadyH.nil
    go_simp
    try go_wp2_with fail
    (with_reducible refine made_step (t := 22) ?_)
    intro w5 hx5 hnew
    have hs5 := hnew.size
    have hl5 := block_lt hx5.out
    replace hZ := Lib.hid (rowG hZ.out _ hnew)
    (try replace hz6 := Lib.hid (rowG hz6.out _ hnew))
    (try replace ho3 := Lib.hid (ownsRow_grown ho3.out hnew))
    refine hKz.out _ _ (by first | exact hS | exact Below.trans hOn (Below.mono hnew (Below.size hOn))) (fun hNext => ?_)
    clear hKz Kz hOn
    have hOn := hNext
    clear hNext
    try clear hnew
    try clear hS
    try simp only [Act.put, List.setIfInBounds_toArray, List.set_cons_zero, List.set_cons_succ]
    refine wpAnyH_ready (rs := [1]) (by kernel_rfl) (by simp) ?_
    refine AllReadyH.cons (by simp only [List.getElem?_toArray, List.getElem?_cons_succ, List.getElem?_cons_zero]; rfl) (fun Kz hKz => ?_) AllReadyH.nil
    go_simp
    (with_reducible refine (hcl.out _ hOn).mono ?_)
    rintro e w3 ⟨v3, rfl, ho3, hnew⟩
    have hlo3 := ownBlock_ge ho3
    have hs3 := hnew.size
    replace hZ := Lib.hid (rowG hZ.out _ hnew)
    (try replace hz6 := Lib.hid (rowG hz6.out _ hnew))
    (try replace hx5 := Lib.hid (rowG hx5.out _ hnew))
    replace ho3 := Lib.hid ho3
    replace hlo3 := Lib.hid hlo3
    have hB3 := hOn.size
    have hlt3 := hlt
    go_wp2_with fail
    refine hKz.out _ _ (by first | exact hS | exact Below.trans hOn (Below.mono hnew (Below.size hOn))) (fun hNext => ?_)
    clear hKz Kz hOn
    have hOn := hNext
    clear hNext
    try clear hnew
    try clear hS
    try simp only [Act.put, List.setIfInBounds_toArray, List.set_cons_zero, List.set_cons_succ]
    refine wpAnyH_ready (rs := [7]) (by kernel_rfl) (by simp) ?_
    refine AllReadyH.cons (by simp only [List.getElem?_toArray, List.getElem?_cons_succ, List.getElem?_cons_zero]; rfl) (fun Kz hKz => ?_) AllReadyH.nil
    go_simp
    (with_reducible refine (insert_any _ v3 ps.length vs _ _ _ ho3.out hx5.out (fun e => by have := hlo3.out _ e; have := block_lt hx5.out; omega) hvone.out rfl (by omega) (by omega)).mono ?_)
    rintro e w7 ⟨g7, c7, rfl, hat7, hc7, hm7, hg7⟩
    have hb7 := (Below.refl _ _).grown hg7 (by omega) (fun k hk => (hlo3.out k hk).1)
    have hS := hOn.trans (hb7.mono (by omega))
    have hs7 := hg7.size
    replace hZ := Lib.hid (rowGB hZ.out hg7 (fun e => by have := hlo3.out _ e.symm; omega))
    (try replace hz6 := Lib.hid (rowGB hz6.out hg7 (fun e => by have := hlo3.out _ e.symm; omega)))
    clear ho3 hx5 hb7 hg7
    replace hat7 := Lib.hid (hin.out _ hS _ _ hat7 hc7 hm7)
    go_wp2_with fail
    refine hKz.out _ _ (by first | exact hS | exact Below.trans hOn (Below.mono hnew (Below.size hOn))) (fun hNext => ?_)
    clear hKz Kz hOn
    have hOn := hNext
    clear hNext
    try clear hnew
    try clear hS
    try simp only [Act.put, List.setIfInBounds_toArray, List.set_cons_zero, List.set_cons_succ]
    refine wpAnyH_ready (rs := [8]) (by kernel_rfl) (by simp) ?_
    refine AllReadyH.cons (by simp only [List.getElem?_toArray, List.getElem?_cons_succ, List.getElem?_cons_zero]; rfl) (fun Kz hKz => ?_) AllReadyH.nil
    go_simp
    (with_reducible refine (hsh1.out _ _ _ hat7.out (hK.out.below hOn) (hF.out.below hOn)).mono ?_)
    rintro e w8 ⟨rfl, hnew⟩
    have hs8 := hnew.size
    clear hat7
    replace hZ := Lib.hid (rowG hZ.out _ hnew)
    (try replace hz6 := Lib.hid (rowG hz6.out _ hnew))
    go_wp2_with fail
    refine hKz.out _ _ (by first | exact hS | exact Below.trans hOn (Below.mono hnew (Below.size hOn))) (fun hNext => ?_)
    clear hKz Kz hOn
    have hOn := hNext
    clear hNext
    try clear hnew
    try clear hS
    try simp only [Act.put, List.setIfInBounds_toArray, List.set_cons_zero, List.set_cons_succ]
    refine wpAnyH_ready (rs := [10]) (by kernel_rfl) (by simp) ?_
    refine AllReadyH.cons (by simp only [List.getElem?_toArray, List.getElem?_cons_succ, List.getElem?_cons_zero]; rfl) (fun Kz hKz => ?_) AllReadyH.nil
    rw [if_pos (by rfl)]
    (with_reducible refine wp_store_rowK 49 (.tmp 5) (.tmp 14) rfl _ zero32 D rfl rfl hz6 sD s32 sO ?_)
    intro w9 hU9
    have hS := hOn.trans (hU9.out.below (by omega))
    replace hZ := Lib.hid ((hU9.out.block p (by omega)).trans hZ.out)
    have hd9 := Lib.hid (hargL.out _ _ hU9.out.here)
    clear hz6 hU9
    refine hKz.out _ _ (by first | exact hS | exact Below.trans hOn (Below.mono hnew (Below.size hOn))) (fun hNext => ?_)
    clear hKz Kz hOn
    have hOn := hNext
    clear hNext
    try clear hnew
    try clear hS
    try simp only [Act.put]
    refine wpAnyH_done (by kernel_rfl) ?_ _
    all_goals
      go_wp2_with fail
      go_meet
      exact ⟨_, rfl, hd9.out, hZ.out, hOn⟩
  case rest =>
    clear hsh1 hin hcl hvone hargL hlx hly hd1 hZ hw0 hA hp hlt sD s32 sO
    obtain ⟨q, rfl, hq, hZ, hbw⟩ := hcut
    replace hq := Lib.hid hq
    replace hZ := Lib.hid hZ
    replace hbd := Lib.hid hbw.drew
    replace hq : Hid (ArgB wc.drew (some ⟨q, 0, none⟩) 32 L) := Lib.hid (hq.out.below (Below.refl _ wc).drew)
    replace hZ : Hid (wc.drew.heap[p]? = some (.cells zero32 49 (0, 0))) := Lib.hid hZ.out
    go_wp2_with fail
    refine wp_region_held_drew (S := (Below w.heap.size w)) (by kernel_rfl) hbd.out (fun hOn => ?_)
    generalize World.drew wc = wd at *
    refine wpAnyH_take (i := 0) (v := ?_) (by simp only [List.getElem?_toArray, List.getElem?_cons_zero]; rfl) (by kernel_rfl) (by kernel_rfl) (by kernel_rfl) (by exact fun _ _ _ h => h) (Or.inl ⟨by rfl, ?_⟩) hOn ?_
    rotate_left
    focus (intro W hSW; go_simp; try with_reducible rfl)
    try simp only [Act.put, List.setIfInBounds_toArray, List.set_cons_zero, List.set_cons_succ]
    refine wpAnyH_take (i := 1) (v := ?_) (by simp only [List.getElem?_toArray, List.getElem?_cons_succ, List.getElem?_cons_zero]; rfl) (by kernel_rfl) (by kernel_rfl) (by kernel_rfl) (by exact fun _ _ _ h => h) (Or.inl ⟨by rfl, ?_⟩) hOn ?_
    rotate_left
    focus (intro W hSW; go_simp; try with_reducible rfl)
    try simp only [Act.put, List.setIfInBounds_toArray, List.set_cons_zero, List.set_cons_succ]
    refine wpAnyH_take (i := 2) (v := ?_) (by simp only [List.getElem?_toArray, List.getElem?_cons_succ, List.getElem?_cons_zero]; rfl) (by kernel_rfl) (by kernel_rfl) (by kernel_rfl) (by exact fun _ _ _ h => h) (Or.inl ⟨by rfl, ?_⟩) hOn ?_
    rotate_left
    focus (intro W hSW; go_simp; try with_reducible rfl)
    try simp only [Act.put, List.setIfInBounds_toArray, List.set_cons_zero, List.set_cons_succ]
    refine wpAnyH_take (i := 3) (v := ?_) (by simp only [List.getElem?_toArray, List.getElem?_cons_succ, List.getElem?_cons_zero]; rfl) (by kernel_rfl) (by kernel_rfl) (by kernel_rfl) (by exact fun _ _ _ h => h) (Or.inl ⟨by rfl, ?_⟩) hOn ?_
    rotate_left
    focus (intro W hSW; go_simp; try with_reducible rfl)
    try simp only [Act.put, List.setIfInBounds_toArray, List.set_cons_zero, List.set_cons_succ]
    refine wpAnyH_take (i := 4) (v := ?_) (by simp only [List.getElem?_toArray, List.getElem?_cons_succ, List.getElem?_cons_zero]; rfl) (by kernel_rfl) (by kernel_rfl) (by kernel_rfl) (by exact fun _ _ _ h => h) (Or.inl ⟨by rfl, ?_⟩) hOn ?_
    rotate_left
    focus (intro W hSW; go_simp; try with_reducible rfl)
    try simp only [Act.put, List.setIfInBounds_toArray, List.set_cons_zero, List.set_cons_succ]
    refine wpAnyH_ready (rs := [5]) (by kernel_rfl) (by simp) ?_
    refine AllReadyH.cons (by simp only [List.getElem?_toArray, List.getElem?_cons_succ, List.getElem?_cons_zero]; rfl) (fun Kz hKz => ?_) AllReadyH.nil
    go_simp
    try go_wp2_with fail
    (with_reducible refine made_step (t := 22) ?_)
    intro w5 hx5 hnew
    have hq5 := Lib.hid (hpair.out _ (hOn.trans (hnew.mono hOn.size)) _ _ (hq.out.below hnew) hx5.out)
    replace hZ := Lib.hid (rowG hZ.out _ hnew)
    refine hKz.out _ _ (by first | exact hS | exact Below.trans hOn (Below.mono hnew (Below.size hOn))) (fun hNext => ?_)
    clear hKz Kz hOn
    have hOn := hNext
    clear hNext
    try clear hnew
    try clear hS
    try simp only [Act.put, List.setIfInBounds_toArray, List.set_cons_zero, List.set_cons_succ]
    refine wpAnyH_ready (rs := [6]) (by kernel_rfl) (by simp) ?_
    refine AllReadyH.cons (by simp only [List.getElem?_toArray, List.getElem?_cons_succ, List.getElem?_cons_zero]; rfl) (fun Kz hKz => ?_) AllReadyH.nil
    go_simp
    (with_reducible refine (hsh2.out _ _ hq5.out (hK.out.below hOn) (hF.out.below hOn)).mono ?_)
    rintro e w8 ⟨rfl, hnew⟩
    replace hZ := Lib.hid (rowG hZ.out _ hnew)
    go_wp2_with fail
    refine hKz.out _ _ (by first | exact hS | exact Below.trans hOn (Below.mono hnew (Below.size hOn))) (fun hNext => ?_)
    clear hKz Kz hOn
    have hOn := hNext
    clear hNext
    try clear hnew
    try clear hS
    try simp only [Act.put, List.setIfInBounds_toArray, List.set_cons_zero, List.set_cons_succ]
    refine wpAnyH_ready (rs := [7]) (by kernel_rfl) (by simp) ?_
    refine AllReadyH.cons (by simp only [List.getElem?_toArray, List.getElem?_cons_succ, List.getElem?_cons_zero]; rfl) (fun Kz hKz => ?_) AllReadyH.nil
    rw [if_pos (by rfl)]
    (with_reducible refine wp_store_rowK 49 (.tmp 4) (.tmp 21) rfl p zero32 E rfl rfl hZ tD t32 tO ?_)
    intro w9 hU9
    have hS := hOn.trans (hU9.out.below hpl)
    refine hKz.out _ _ (by first | exact hS | exact Below.trans hOn (Below.mono hnew (Below.size hOn))) (fun hNext => ?_)
    clear hKz Kz hOn
    have hOn := hNext
    clear hNext
    try clear hnew
    try clear hS
    try simp only [Act.put]
    refine wpAnyH_done (by kernel_rfl) ?_ _
    have hu1 : Tryd.prog.underlying 49 = some (.array 32 5) := Tryd.underlying49
    go_wp2_with fail
    refine ret_cell_row rfl rfl hu1 rfl tD hU9.out.here ⟨by rw [hE.out, hD2.out], hOn⟩

end Go.Proofs.YtfmeheolcibfeaaDoor
