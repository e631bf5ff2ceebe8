/- baileeref34.copied: a model apart. -/
import Derived.Test.YtndgacjfkoliaaaDoorF22PlaysSaid34
import Derived.Test.YtndgacjfkoliaaaDoorF6PlaysSaid34
import Derived.Test.YtndgacjfkoliaaaDoorF31PlaysSaid34
import Derived.Test.YtndgacjfkoliaaaDoorF4PlaysSaid34
namespace Go.Proofs.YtndgacjfkoliaaaDoor
open Go.RowKit
set_option linter.unusedSimpArgs false
set_option linter.unusedVariables false

section
variable {α β : Type} {R : World → (Nat → Prop) → α → List Value → Prop} {R' : World → (Nat → Prop) → β → List Value → Prop} {e e' t : TypeId} {size size' base base' k b : Nat} {w : World} {F F' : Nat → Prop} {v v' : Value} {ps : List α} {qs : List β}
theorem rows_block (h : RowsOf R e size base w F v ps) (hk : v.ownBlock = some k) : ∃ c, w.heap[k]? = some (.cells c e (0, 0)) := by
  obtain ⟨⟨css, k1, k2, k3⟩, k4, k5⟩ := h
  rcases k2.2 with ⟨rfl, h0⟩ | ⟨g0, cap, cur, rfl, hb0, hh, _⟩
  · simp [Value.ownBlock] at hk
  · have : g0 = k := by simpa [Value.ownBlock] using hk
    subst this
    exact ⟨_, hh⟩
theorem cells_ne {a : Nat} {c c' : Array Value} {f f' : Nat × Nat} (h : w.heap[a]? = some (.cells c e f)) (h' : w.heap[b]? = some (.cells c' t f')) (ht : e ≠ t) : a ≠ b := fun q => by
  rw [q, h'] at h
  injection h with h
  injection h with _ h5 _
  exact ht h5.symm
theorem rows_ne {c' : Array Value} {f' : Nat × Nat} (h : RowsOf R e size base w F v ps) (hk : v.ownBlock = some k) (h' : w.heap[b]? = some (.cells c' t f')) (ht : e ≠ t) : k ≠ b := by
  obtain ⟨c, hc⟩ := rows_block h hk
  exact cells_ne hc h' ht
theorem rows_apart (h : RowsOf R e size base w F v ps) (h' : RowsOf R' e' size' base' w F' v' qs) (ht : e ≠ e') : ∀ k, v.ownBlock = some k → v'.ownBlock ≠ some k := fun k hk hk' => by
  obtain ⟨c, hc⟩ := rows_block h' hk'
  exact rows_ne h hk hc ht rfl
end

def CopiedPost (w : World) (m : Md) (x : Ending) (w' : World) : Prop :=
  ∃ v v', x = .returned (.agg #[v, v']) ∧ RowsOf RN 67 40 w.heap.size w' (fun _ => False) v m.ns ∧ RowsOf RV 46 3 w.heap.size w' (fun _ => False) v' m.vs ∧ (∀ k, v.ownBlock = some k → v'.ownBlock ≠ some k) ∧ Below w.heap.size w w'
set_option maxRecDepth 100000 in
set_option maxHeartbeats 2000000 in
theorem copied_any (va : Value) (m : Md) (w : World) (ha : ArgM w va m) (l1 : m.ns.length ≤ 1000) (l2 : m.vs.length ≤ 1000) :
    Calls Tryd.prog 34 #[va] w (CopiedPost w m) := by
  obtain ⟨⟨an, cn, av, cv, rfl, hN, -, -, hV, -, -⟩, okN, okV⟩ := ha
  have lenN := Lib.hid (fun y (hy : y ∈ m.ns) => Nm.list_length (okN y hy).f)
  have oneN := Lib.hid (fun y (hy : y ∈ m.ns) => Nm.list_one y)
  have oneV := Lib.hid (fun y (hy : y ∈ m.vs) => Vd.list_one y)
  obtain ⟨N, hNl⟩ : ∃ N, N = m.ns.length := ⟨_, rfl⟩
  obtain ⟨V, hVl⟩ : ∃ V, V = m.vs.length := ⟨_, rfl⟩
  rw [← hNl, ← hVl]
  obtain ⟨a1, a2, hs2, hB⟩ := boxes2 w #[.slice an N cn, .slice av V cv] #[.slice none 0 0, .slice none 0 0] 32 32 _ rfl
  obtain ⟨w2, hw2⟩ : ∃ w2, w2 = (w.alloc (.cells #[.slice an N cn, .slice av V cv] 32)).alloc (.cells #[.slice none 0 0, .slice none 0 0] 32) := ⟨_, rfl⟩
  rw [← hw2] at a1 a2 hB hs2
  have e10 := cell_of_block a1 0
  have e11 := cell_of_block a1 1
  replace e10 : w2.cell? ⟨w.heap.size, 0, none⟩ = some (.slice an N cn) := e10
  replace e11 : w2.cell? ⟨w.heap.size, 1, none⟩ = some (.slice av V cv) := e11
  have hl1 := Lib.hid (show m.ns.length ≤ 1000000 by omega)
  have hl2 := Lib.hid (show m.vs.length ≤ 1000000 by omega)
  have hrN := Lib.hid (fun W (hW : Only (fun k => k = w.heap.size + 1) w2 W) => hN.below (hB.trans (hW.below (B := w.heap.size) hB.size (fun k e => by omega))) (Nat.le_refl _))
  have hrV := Lib.hid (fun W (hW : Only (fun k => k = w.heap.size + 1) w2 W) => hV.below (hB.trans (hW.below (B := w.heap.size) hB.size (fun k e => by omega))) (Nat.le_refl _))
  have kc0 : ∀ W, Only (fun k => k = w.heap.size + 1) w2 W → W.cell? ⟨w.heap.size, 0, none⟩ = some (.slice an N cn) := fun W hW => (World.cell?_of_block (a := ⟨w.heap.size, 0, none⟩) (hW.block _ (World.block_lt_of_cell? w2 _ e10) (fun e => by simp at e))).trans e10
  have kc1 : ∀ W, Only (fun k => k = w.heap.size + 1) w2 W → W.cell? ⟨w.heap.size, 1, none⟩ = some (.slice av V cv) := fun W hW => (World.cell?_of_block (a := ⟨w.heap.size, 1, none⟩) (hW.block _ (World.block_lt_of_cell? w2 _ e11) (fun e => by simp at e))).trans e11
  have hd0 : Hid (Only (fun k => k = w.heap.size + 1) w2 w2.drew) := Lib.hid ((Only.refl _ _).drew)
  replace a2 : Hid (w2.drew.heap[w.heap.size + 1]? = some (.cells #[.slice none 0 0, .slice none 0 0] 32 (0, 0))) := Lib.hid a2
  replace hNl := Lib.hid hNl
  replace hVl := Lib.hid hVl
  replace hB := Lib.hid hB
  replace hs2 := Lib.hid hs2
  replace hw2 := Lib.hid hw2
  replace okN := Lib.hid okN
  replace okV := Lib.hid okV
  clear hN hV a1 e10 e11 l1 l2
  have l1 := hl1
  have l2 := hl2
  go_enter Tryd.func34, Tryd.ntmps34
  go_wp2_with fail
  rw [← hw2.out]
  refine wp_region_held_drew (S := (Only (fun k => k = w.heap.size + 1) w2)) (by kernel_rfl) hd0.out (fun hOn => ?_)
  generalize World.drew w2 = wd at *
  refine wpAnyH_take (i := 1) (v := ?_) (by simp only [List.getElem?_toArray, List.getElem?_cons_succ, List.getElem?_cons_zero]; rfl) (by kernel_rfl) (by kernel_rfl) (by kernel_rfl) (by exact fun _ _ _ h => h) (Or.inl ⟨by rfl, ?_⟩) hOn ?_
  rotate_left
  focus (intro W hSW; go_simp; try with_reducible rfl)
  try simp only [Act.put, List.setIfInBounds_toArray, List.set_cons_zero, List.set_cons_succ]
  refine wpAnyH_take (i := 2) (v := ?_) (by simp only [List.getElem?_toArray, List.getElem?_cons_succ, List.getElem?_cons_zero]; rfl) (by kernel_rfl) (by kernel_rfl) (by kernel_rfl) (by exact fun _ _ _ h => h) (Or.inl ⟨by rfl, ?_⟩) hOn ?_
  rotate_left
  focus (intro W hSW; go_simp; try with_reducible rfl)
  try simp only [Act.put, List.setIfInBounds_toArray, List.set_cons_zero, List.set_cons_succ]
  refine wpAnyH_take (i := 5) (v := ?_) (by simp only [List.getElem?_toArray, List.getElem?_cons_succ, List.getElem?_cons_zero]; rfl) (by kernel_rfl) (by kernel_rfl) (by kernel_rfl) (by exact fun _ _ _ h => h) (Or.inl ⟨by rfl, ?_⟩) hOn ?_
  rotate_left
  focus (intro W hSW; go_simp; try with_reducible rfl)
  try simp only [Act.put, List.setIfInBounds_toArray, List.set_cons_zero, List.set_cons_succ]
  refine wpAnyH_take (i := 6) (v := ?_) (by simp only [List.getElem?_toArray, List.getElem?_cons_succ, List.getElem?_cons_zero]; rfl) (by kernel_rfl) (by kernel_rfl) (by kernel_rfl) (by exact fun _ _ _ h => h) (Or.inl ⟨by rfl, ?_⟩) hOn ?_
  rotate_left
  focus (intro W hSW; go_simp; try with_reducible rfl)
  try simp only [Act.put, List.setIfInBounds_toArray, List.set_cons_zero, List.set_cons_succ]
  refine wpAnyH_ready (rs := [0, 4]) (by kernel_rfl) (by simp) ?_
  refine AllReadyH.cons (by simp only [List.getElem?_toArray, List.getElem?_cons_zero]; rfl) (fun Kz hKz => ?_) ?_
  go_simp
  focus (try go_wp2_with fail)
  (with_reducible refine made_step (t := 67) ?_)
  have hNg := Lib.hid hOn.size
  intro wN hNz hnew
  have hS : Only (fun k => k = w.heap.size + 1) w2 wN := Only.trans hOn (Only.ofBelow (D := (fun k => k = w.heap.size + 1)) hnew) (fun _ _ h => h)
  (try replace hVz := Lib.hid ((hnew.block _ (block_lt hVz.out)).trans hVz.out))
  replace a2 := Lib.hid ((hnew.block _ (block_lt a2.out)).trans a2.out)
  (try replace hoN := Lib.hid (hoN.out.below liesRN hnew))
  (try replace hoV := Lib.hid (hoV.out.below liesRV hnew))
  refine hKz.out _ _ (by first | exact hS | exact Below.trans hOn (Below.mono hnew (Below.size hOn))) (fun hNext => ?_)
  clear hKz Kz hOn
  have hOn := hNext
  clear hNext
  try clear hnew
  try clear hS
  try simp only [Act.put, List.setIfInBounds_toArray, List.set_cons_zero, List.set_cons_succ]
  refine wpAnyH_ready (rs := [3, 4]) (by kernel_rfl) (by simp) ?_
  refine AllReadyH.cons (by simp only [List.getElem?_toArray, List.getElem?_cons_succ, List.getElem?_cons_zero]; rfl) (fun Kz hKz => ?_) ?_
  rw [if_pos (by rfl)]
  (refine wpK_appRowA (a := _) (base := w2.heap.size) (.tmp 3) (.tmp 5) 29 rfl Tryd.underlying29 104 infoNmR (by decide) rfl hNl.out.symm (Lib.hid (hrN.out _ hOn)) lenN oneN rfl hNz hNg.out l1.out (by decide) ?_)
  intro vN wv ho hO hv
  have hS : Only (fun k => k = w.heap.size + 1) w2 wv := Only.trans hOn hO.out (fun k hk e => by have := hNg.out; have := hs2.out; omega)
  replace a2 := Lib.hid (hO.out.heap a2.out (fun e => by have := hNg.out; have := hs2.out; omega))
  (try replace hVz := Lib.hid (hO.out.heap hVz.out (cells_ne hVz.out hNz.out (by decide))))
  (try replace hoV := Lib.hid (hoV.out.only liesRV hO.out (fun k hk => hk.elim) (fun k hk => rows_ne hoV.out hk hNz.out (by decide))))
  have hoN := Lib.hid (rowsOf_own (R := RN) (fun y hy => ⟨rfl, okN.out y hy⟩) ho.out)
  obtain ⟨avN, cvN, evN, -⟩ := hoN.out.form
  subst evN
  refine hKz.out _ _ (by first | exact hS | exact Below.trans hOn (Below.mono hnew (Below.size hOn))) (fun hNext => ?_)
  clear hKz Kz hOn
  have hOn := hNext
  clear hNext
  try clear hnew
  try clear hS
  try simp only [Act.put]
  refine wpAnyH_ready (rs := [4]) (by kernel_rfl) (by simp) ?_
  refine AllReadyH.cons (by simp only [List.getElem?_toArray, List.getElem?_cons_succ, List.getElem?_cons_zero]; rfl) (fun Kz hKz => ?_) AllReadyH.nil
  go_simp
  focus (try go_wp2_with fail)
  (with_reducible refine made_step (t := 46) ?_)
  have hVg := Lib.hid hOn.size
  intro wV hVz hnew
  have hS : Only (fun k => k = w.heap.size + 1) w2 wV := Only.trans hOn (Only.ofBelow (D := (fun k => k = w.heap.size + 1)) hnew) (fun _ _ h => h)
  (try replace hNz := Lib.hid ((hnew.block _ (block_lt hNz.out)).trans hNz.out))
  replace a2 := Lib.hid ((hnew.block _ (block_lt a2.out)).trans a2.out)
  (try replace hoN := Lib.hid (hoN.out.below liesRN hnew))
  (try replace hoV := Lib.hid (hoV.out.below liesRV hnew))
  refine hKz.out _ _ (by first | exact hS | exact Below.trans hOn (Below.mono hnew (Below.size hOn))) (fun hNext => ?_)
  clear hKz Kz hOn
  have hOn := hNext
  clear hNext
  try clear hnew
  try clear hS
  try simp only [Act.put, List.setIfInBounds_toArray, List.set_cons_zero, List.set_cons_succ]
  refine wpAnyH_ready (rs := [7]) (by kernel_rfl) (by simp) ?_
  refine AllReadyH.cons (by simp only [List.getElem?_toArray, List.getElem?_cons_succ, List.getElem?_cons_zero]; rfl) (fun Kz hKz => ?_) AllReadyH.nil
  rw [if_pos (by rfl)]
  (refine wpK_appRowA (a := _) (base := w2.heap.size) (.tmp 7) (.tmp 9) 30 rfl Tryd.underlying30 24 infoVdR (by decide) rfl hVl.out.symm (Lib.hid (hrV.out _ hOn)) (Lib.hid (fun (y : Vd) _ => rfl)) oneV rfl hVz hVg.out l2.out (by decide) ?_)
  intro vV wv ho hO hv
  have hS : Only (fun k => k = w.heap.size + 1) w2 wv := Only.trans hOn hO.out (fun k hk e => by have := hVg.out; have := hs2.out; omega)
  replace a2 := Lib.hid (hO.out.heap a2.out (fun e => by have := hVg.out; have := hs2.out; omega))
  (try replace hNz := Lib.hid (hO.out.heap hNz.out (cells_ne hNz.out hVz.out (by decide))))
  (try replace hoN := Lib.hid (hoN.out.only liesRN hO.out (fun k hk => hk.elim) (fun k hk => rows_ne hoN.out hk hVz.out (by decide))))
  have hoV := Lib.hid (rowsOf_own (R := RV) (fun y hy => ⟨rfl, okV.out y hy⟩) ho.out)
  obtain ⟨avV, cvV, evV, -⟩ := hoV.out.form
  subst evV
  refine hKz.out _ _ (by first | exact hS | exact Below.trans hOn (Below.mono hnew (Below.size hOn))) (fun hNext => ?_)
  clear hKz Kz hOn
  have hOn := hNext
  clear hNext
  try clear hnew
  try clear hS
  try simp only [Act.put]
  refine wpAnyH_take (i := 8) (v := ?_) (by simp only [List.getElem?_toArray, List.getElem?_cons_succ, List.getElem?_cons_zero]; rfl) (by kernel_rfl) (by kernel_rfl) (by kernel_rfl) (by exact fun _ _ _ h => h) (Or.inl ⟨by rfl, ?_⟩) hOn ?_
  rotate_left
  focus (intro W hSW; go_simp; try with_reducible rfl)
  try simp only [Act.put, List.setIfInBounds_toArray, List.set_cons_zero, List.set_cons_succ]
  refine wpAnyH_ready (rs := [9]) (by kernel_rfl) (by simp) ?_
  refine AllReadyH.cons (by simp only [List.getElem?_toArray, List.getElem?_cons_succ, List.getElem?_cons_zero]; rfl) (fun Kz hKz => ?_) AllReadyH.nil
  rw [if_pos (by rfl)]
  (with_reducible refine wp_store_rowK 32 (.tmp 2) (.tmp 11) rfl (w.heap.size + 1) #[.slice none 0 0, .slice none 0 0] #[.slice avN m.ns.length cvN, .slice avV m.vs.length cvV] rfl rfl a2 (by kernel_rfl) rfl (by simp [Value.oneCell']) ?_)
  intro w9 hU9
  have hS : Only (fun k => k = w.heap.size + 1) w2 w9 := Only.trans hOn (Only.ofUpd (D := (fun k => k = w.heap.size + 1)) hU9.out rfl) (fun _ _ h => h)
  have hres := Lib.hid hU9.out.here
  have hoN9 := Lib.hid (hoN.out.only liesRN (Only.ofUpd (D := (fun k => k = w.heap.size + 1)) hU9.out rfl) (fun k hk => hk.elim) (fun k hk => rows_ne hoN.out hk a2.out (by decide)))
  have hoV9 := Lib.hid (hoV.out.only liesRV (Only.ofUpd (D := (fun k => k = w.heap.size + 1)) hU9.out rfl) (fun k hk => hk.elim) (fun k hk => rows_ne hoV.out hk a2.out (by decide)))
  refine hKz.out _ _ (by first | exact hS | exact Below.trans hOn (Below.mono hnew (Below.size hOn))) (fun hNext => ?_)
  clear hKz Kz hOn
  have hOn := hNext
  clear hNext
  try clear hnew
  try clear hS
  try simp only [Act.put]
  refine wpAnyH_done (by kernel_rfl) ?_ _
  rotate_left
  refine AllReadyH.cons (by simp only [List.getElem?_toArray, List.getElem?_cons_succ, List.getElem?_cons_zero]; rfl) (fun Kz hKz => ?_) AllReadyH.nil
  go_simp
  focus (try go_wp2_with fail)
  (with_reducible refine made_step (t := 46) ?_)
  have hVg := Lib.hid hOn.size
  intro wV hVz hnew
  have hS : Only (fun k => k = w.heap.size + 1) w2 wV := Only.trans hOn (Only.ofBelow (D := (fun k => k = w.heap.size + 1)) hnew) (fun _ _ h => h)
  (try replace hNz := Lib.hid ((hnew.block _ (block_lt hNz.out)).trans hNz.out))
  replace a2 := Lib.hid ((hnew.block _ (block_lt a2.out)).trans a2.out)
  (try replace hoN := Lib.hid (hoN.out.below liesRN hnew))
  (try replace hoV := Lib.hid (hoV.out.below liesRV hnew))
  refine hKz.out _ _ (by first | exact hS | exact Below.trans hOn (Below.mono hnew (Below.size hOn))) (fun hNext => ?_)
  clear hKz Kz hOn
  have hOn := hNext
  clear hNext
  try clear hnew
  try clear hS
  try simp only [Act.put, List.setIfInBounds_toArray, List.set_cons_zero, List.set_cons_succ]
  refine wpAnyH_ready (rs := [3]) (by kernel_rfl) (by simp) ?_
  refine AllReadyH.cons (by simp only [List.getElem?_toArray, List.getElem?_cons_succ, List.getElem?_cons_zero]; rfl) (fun Kz hKz => ?_) AllReadyH.nil
  rw [if_pos (by rfl)]
  (refine wpK_appRowA (a := _) (base := w2.heap.size) (.tmp 3) (.tmp 5) 29 rfl Tryd.underlying29 104 infoNmR (by decide) rfl hNl.out.symm (Lib.hid (hrN.out _ hOn)) lenN oneN rfl hNz hNg.out l1.out (by decide) ?_)
  intro vN wv ho hO hv
  have hS : Only (fun k => k = w.heap.size + 1) w2 wv := Only.trans hOn hO.out (fun k hk e => by have := hNg.out; have := hs2.out; omega)
  replace a2 := Lib.hid (hO.out.heap a2.out (fun e => by have := hNg.out; have := hs2.out; omega))
  (try replace hVz := Lib.hid (hO.out.heap hVz.out (cells_ne hVz.out hNz.out (by decide))))
  (try replace hoV := Lib.hid (hoV.out.only liesRV hO.out (fun k hk => hk.elim) (fun k hk => rows_ne hoV.out hk hNz.out (by decide))))
  have hoN := Lib.hid (rowsOf_own (R := RN) (fun y hy => ⟨rfl, okN.out y hy⟩) ho.out)
  obtain ⟨avN, cvN, evN, -⟩ := hoN.out.form
  subst evN
  refine hKz.out _ _ (by first | exact hS | exact Below.trans hOn (Below.mono hnew (Below.size hOn))) (fun hNext => ?_)
  clear hKz Kz hOn
  have hOn := hNext
  clear hNext
  try clear hnew
  try clear hS
  try simp only [Act.put]
  refine wpAnyH_ready (rs := [7]) (by kernel_rfl) (by simp) ?_
  refine AllReadyH.cons (by simp only [List.getElem?_toArray, List.getElem?_cons_succ, List.getElem?_cons_zero]; rfl) (fun Kz hKz => ?_) AllReadyH.nil
  rw [if_pos (by rfl)]
  (refine wpK_appRowA (a := _) (base := w2.heap.size) (.tmp 7) (.tmp 9) 30 rfl Tryd.underlying30 24 infoVdR (by decide) rfl hVl.out.symm (Lib.hid (hrV.out _ hOn)) (Lib.hid (fun (y : Vd) _ => rfl)) oneV rfl hVz hVg.out l2.out (by decide) ?_)
  intro vV wv ho hO hv
  have hS : Only (fun k => k = w.heap.size + 1) w2 wv := Only.trans hOn hO.out (fun k hk e => by have := hVg.out; have := hs2.out; omega)
  replace a2 := Lib.hid (hO.out.heap a2.out (fun e => by have := hVg.out; have := hs2.out; omega))
  (try replace hNz := Lib.hid (hO.out.heap hNz.out (cells_ne hNz.out hVz.out (by decide))))
  (try replace hoN := Lib.hid (hoN.out.only liesRN hO.out (fun k hk => hk.elim) (fun k hk => rows_ne hoN.out hk hVz.out (by decide))))
  have hoV := Lib.hid (rowsOf_own (R := RV) (fun y hy => ⟨rfl, okV.out y hy⟩) ho.out)
  obtain ⟨avV, cvV, evV, -⟩ := hoV.out.form
  subst evV
  refine hKz.out _ _ (by first | exact hS | exact Below.trans hOn (Below.mono hnew (Below.size hOn))) (fun hNext => ?_)
  clear hKz Kz hOn
  have hOn := hNext
  clear hNext
  try clear hnew
  try clear hS
  try simp only [Act.put]
  refine wpAnyH_take (i := 8) (v := ?_) (by simp only [List.getElem?_toArray, List.getElem?_cons_succ, List.getElem?_cons_zero]; rfl) (by kernel_rfl) (by kernel_rfl) (by kernel_rfl) (by exact fun _ _ _ h => h) (Or.inl ⟨by rfl, ?_⟩) hOn ?_
  rotate_left
  focus (intro W hSW; go_simp; try with_reducible rfl)
  try simp only [Act.put, List.setIfInBounds_toArray, List.set_cons_zero, List.set_cons_succ]
  refine wpAnyH_ready (rs := [9]) (by kernel_rfl) (by simp) ?_
  refine AllReadyH.cons (by simp only [List.getElem?_toArray, List.getElem?_cons_succ, List.getElem?_cons_zero]; rfl) (fun Kz hKz => ?_) AllReadyH.nil
  rw [if_pos (by rfl)]
  (with_reducible refine wp_store_rowK 32 (.tmp 2) (.tmp 11) rfl (w.heap.size + 1) #[.slice none 0 0, .slice none 0 0] #[.slice avN m.ns.length cvN, .slice avV m.vs.length cvV] rfl rfl a2 (by kernel_rfl) rfl (by simp [Value.oneCell']) ?_)
  intro w9 hU9
  have hS : Only (fun k => k = w.heap.size + 1) w2 w9 := Only.trans hOn (Only.ofUpd (D := (fun k => k = w.heap.size + 1)) hU9.out rfl) (fun _ _ h => h)
  have hres := Lib.hid hU9.out.here
  have hoN9 := Lib.hid (hoN.out.only liesRN (Only.ofUpd (D := (fun k => k = w.heap.size + 1)) hU9.out rfl) (fun k hk => hk.elim) (fun k hk => rows_ne hoN.out hk a2.out (by decide)))
  have hoV9 := Lib.hid (hoV.out.only liesRV (Only.ofUpd (D := (fun k => k = w.heap.size + 1)) hU9.out rfl) (fun k hk => hk.elim) (fun k hk => rows_ne hoV.out hk a2.out (by decide)))
  refine hKz.out _ _ (by first | exact hS | exact Below.trans hOn (Below.mono hnew (Below.size hOn))) (fun hNext => ?_)
  clear hKz Kz hOn
  have hOn := hNext
  clear hNext
  try clear hnew
  try clear hS
  try simp only [Act.put]
  refine wpAnyH_done (by kernel_rfl) ?_ _
  rotate_left
  refine AllReadyH.cons (by simp only [List.getElem?_toArray, List.getElem?_cons_succ, List.getElem?_cons_zero]; rfl) (fun Kz hKz => ?_) AllReadyH.nil
  go_simp
  focus (try go_wp2_with fail)
  (with_reducible refine made_step (t := 46) ?_)
  have hVg := Lib.hid hOn.size
  intro wV hVz hnew
  have hS : Only (fun k => k = w.heap.size + 1) w2 wV := Only.trans hOn (Only.ofBelow (D := (fun k => k = w.heap.size + 1)) hnew) (fun _ _ h => h)
  (try replace hNz := Lib.hid ((hnew.block _ (block_lt hNz.out)).trans hNz.out))
  replace a2 := Lib.hid ((hnew.block _ (block_lt a2.out)).trans a2.out)
  (try replace hoN := Lib.hid (hoN.out.below liesRN hnew))
  (try replace hoV := Lib.hid (hoV.out.below liesRV hnew))
  refine hKz.out _ _ (by first | exact hS | exact Below.trans hOn (Below.mono hnew (Below.size hOn))) (fun hNext => ?_)
  clear hKz Kz hOn
  have hOn := hNext
  clear hNext
  try clear hnew
  try clear hS
  try simp only [Act.put, List.setIfInBounds_toArray, List.set_cons_zero, List.set_cons_succ]
  refine wpAnyH_ready (rs := [0]) (by kernel_rfl) (by simp) ?_
  refine AllReadyH.cons (by simp only [List.getElem?_toArray, List.getElem?_cons_zero]; rfl) (fun Kz hKz => ?_) AllReadyH.nil
  go_simp
  focus (try go_wp2_with fail)
  (with_reducible refine made_step (t := 67) ?_)
  have hNg := Lib.hid hOn.size
  intro wN hNz hnew
  have hS : Only (fun k => k = w.heap.size + 1) w2 wN := Only.trans hOn (Only.ofBelow (D := (fun k => k = w.heap.size + 1)) hnew) (fun _ _ h => h)
  (try replace hVz := Lib.hid ((hnew.block _ (block_lt hVz.out)).trans hVz.out))
  replace a2 := Lib.hid ((hnew.block _ (block_lt a2.out)).trans a2.out)
  (try replace hoN := Lib.hid (hoN.out.below liesRN hnew))
  (try replace hoV := Lib.hid (hoV.out.below liesRV hnew))
  refine hKz.out _ _ (by first | exact hS | exact Below.trans hOn (Below.mono hnew (Below.size hOn))) (fun hNext => ?_)
  clear hKz Kz hOn
  have hOn := hNext
  clear hNext
  try clear hnew
  try clear hS
  try simp only [Act.put, List.setIfInBounds_toArray, List.set_cons_zero, List.set_cons_succ]
  refine wpAnyH_ready (rs := [3]) (by kernel_rfl) (by simp) ?_
  refine AllReadyH.cons (by simp only [List.getElem?_toArray, List.getElem?_cons_succ, List.getElem?_cons_zero]; rfl) (fun Kz hKz => ?_) AllReadyH.nil
  rw [if_pos (by rfl)]
  (refine wpK_appRowA (a := _) (base := w2.heap.size) (.tmp 3) (.tmp 5) 29 rfl Tryd.underlying29 104 infoNmR (by decide) rfl hNl.out.symm (Lib.hid (hrN.out _ hOn)) lenN oneN rfl hNz hNg.out l1.out (by decide) ?_)
  intro vN wv ho hO hv
  have hS : Only (fun k => k = w.heap.size + 1) w2 wv := Only.trans hOn hO.out (fun k hk e => by have := hNg.out; have := hs2.out; omega)
  replace a2 := Lib.hid (hO.out.heap a2.out (fun e => by have := hNg.out; have := hs2.out; omega))
  (try replace hVz := Lib.hid (hO.out.heap hVz.out (cells_ne hVz.out hNz.out (by decide))))
  (try replace hoV := Lib.hid (hoV.out.only liesRV hO.out (fun k hk => hk.elim) (fun k hk => rows_ne hoV.out hk hNz.out (by decide))))
  have hoN := Lib.hid (rowsOf_own (R := RN) (fun y hy => ⟨rfl, okN.out y hy⟩) ho.out)
  obtain ⟨avN, cvN, evN, -⟩ := hoN.out.form
  subst evN
  refine hKz.out _ _ (by first | exact hS | exact Below.trans hOn (Below.mono hnew (Below.size hOn))) (fun hNext => ?_)
  clear hKz Kz hOn
  have hOn := hNext
  clear hNext
  try clear hnew
  try clear hS
  try simp only [Act.put]
  refine wpAnyH_ready (rs := [7]) (by kernel_rfl) (by simp) ?_
  refine AllReadyH.cons (by simp only [List.getElem?_toArray, List.getElem?_cons_succ, List.getElem?_cons_zero]; rfl) (fun Kz hKz => ?_) AllReadyH.nil
  rw [if_pos (by rfl)]
  (refine wpK_appRowA (a := _) (base := w2.heap.size) (.tmp 7) (.tmp 9) 30 rfl Tryd.underlying30 24 infoVdR (by decide) rfl hVl.out.symm (Lib.hid (hrV.out _ hOn)) (Lib.hid (fun (y : Vd) _ => rfl)) oneV rfl hVz hVg.out l2.out (by decide) ?_)
  intro vV wv ho hO hv
  have hS : Only (fun k => k = w.heap.size + 1) w2 wv := Only.trans hOn hO.out (fun k hk e => by have := hVg.out; have := hs2.out; omega)
  replace a2 := Lib.hid (hO.out.heap a2.out (fun e => by have := hVg.out; have := hs2.out; omega))
  (try replace hNz := Lib.hid (hO.out.heap hNz.out (cells_ne hNz.out hVz.out (by decide))))
  (try replace hoN := Lib.hid (hoN.out.only liesRN hO.out (fun k hk => hk.elim) (fun k hk => rows_ne hoN.out hk hVz.out (by decide))))
  have hoV := Lib.hid (rowsOf_own (R := RV) (fun y hy => ⟨rfl, okV.out y hy⟩) ho.out)
  obtain ⟨avV, cvV, evV, -⟩ := hoV.out.form
  subst evV
  refine hKz.out _ _ (by first | exact hS | exact Below.trans hOn (Below.mono hnew (Below.size hOn))) (fun hNext => ?_)
  clear hKz Kz hOn
  have hOn := hNext
  clear hNext
  try clear hnew
  try clear hS
  try simp only [Act.put]
  refine wpAnyH_take (i := 8) (v := ?_) (by simp only [List.getElem?_toArray, List.getElem?_cons_succ, List.getElem?_cons_zero]; rfl) (by kernel_rfl) (by kernel_rfl) (by kernel_rfl) (by exact fun _ _ _ h => h) (Or.inl ⟨by rfl, ?_⟩) hOn ?_
  rotate_left
  focus (intro W hSW; go_simp; try with_reducible rfl)
  try simp only [Act.put, List.setIfInBounds_toArray, List.set_cons_zero, List.set_cons_succ]
  refine wpAnyH_ready (rs := [9]) (by kernel_rfl) (by simp) ?_
  refine AllReadyH.cons (by simp only [List.getElem?_toArray, List.getElem?_cons_succ, List.getElem?_cons_zero]; rfl) (fun Kz hKz => ?_) AllReadyH.nil
  rw [if_pos (by rfl)]
  (with_reducible refine wp_store_rowK 32 (.tmp 2) (.tmp 11) rfl (w.heap.size + 1) #[.slice none 0 0, .slice none 0 0] #[.slice avN m.ns.length cvN, .slice avV m.vs.length cvV] rfl rfl a2 (by kernel_rfl) rfl (by simp [Value.oneCell']) ?_)
  intro w9 hU9
  have hS : Only (fun k => k = w.heap.size + 1) w2 w9 := Only.trans hOn (Only.ofUpd (D := (fun k => k = w.heap.size + 1)) hU9.out rfl) (fun _ _ h => h)
  have hres := Lib.hid hU9.out.here
  have hoN9 := Lib.hid (hoN.out.only liesRN (Only.ofUpd (D := (fun k => k = w.heap.size + 1)) hU9.out rfl) (fun k hk => hk.elim) (fun k hk => rows_ne hoN.out hk a2.out (by decide)))
  have hoV9 := Lib.hid (hoV.out.only liesRV (Only.ofUpd (D := (fun k => k = w.heap.size + 1)) hU9.out rfl) (fun k hk => hk.elim) (fun k hk => rows_ne hoV.out hk a2.out (by decide)))
  refine hKz.out _ _ (by first | exact hS | exact Below.trans hOn (Below.mono hnew (Below.size hOn))) (fun hNext => ?_)
  clear hKz Kz hOn
  have hOn := hNext
  clear hNext
  try clear hnew
  try clear hS
  try simp only [Act.put]
  refine wpAnyH_done (by kernel_rfl) ?_ _
  all_goals
    go_wp2_with fail
    refine ret_cell_row rfl rfl Tryd.underlying32 rfl (by kernel_rfl) hres.out ?_
    exact ⟨_, _, rfl, hoN9.out.mono hB.out.size, hoV9.out.mono hB.out.size, rows_apart hoN9.out hoV9.out (by decide), hB.out.trans (hOn.below (B := w.heap.size) hB.out.size (fun k e => by omega))⟩
end Go.Proofs.YtndgacjfkoliaaaDoor
