/- The walks over slices.Clone of items and of entries, and over ledger.State's copy. Out of n34/XApart (gen21.py). -/
import Derived.Test.YtpehdoepcpmnbaaDoorF4ModelOfSaid
import Derived.Test.YtpehdoepcpmnbaaDoorF7ModelOfSaid
import Derived.Test.YtpehdoepcpmnbaaDoorF8ModelOfSaid
import Derived.Test.YtpehdoepcpmnbaaDoorF5ModelOfSaid
namespace Go.Proofs.YtpehdoepcpmnbaaDoor
open Go.RowKit

def ClonePostI (w : World) (xs : List It) (x : Ending) (w' : World) : Prop := ∃ v, x = .returned v ∧ RowsOf RI 93 76 w.heap.size w' (fun _ => False) v xs ∧ Below w.heap.size w w'
set_option maxRecDepth 100000 in
set_option maxHeartbeats 1000000 in
theorem cloneI_any (a : Option Addr) (c : Nat) (xs : List It) (hok : ∀ x ∈ xs, x.Ok) (w : World) (h : RowAt It.list 76 w a xs) (hl : xs.length ≤ 100000) :
    Calls Tryd.prog 65 #[.slice a xs.length c] w (ClonePostI w xs) := by
  obtain ⟨i0, hi0, h2⟩ := Option.map_eq_some_iff.1 infoItG
  simp only [Prod.mk.injEq] at h2
  obtain ⟨hz, hs1, hby⟩ := h2
  obtain ⟨z, hz1, hz2⟩ := Option.map_eq_some_iff.1 hz
  have hq := @Lib.run_eql_slice_nil Tryd.prog w 53 93 a xs.length c 0 0 Tryd.underlying53
  cases a with
  | none =>
    have hx : xs = [] := by
      cases xs with
      | nil => rfl
      | cons x xs => obtain ⟨b, o, e, _⟩ := h 0 (by simp); cases e
    subst hx
    have hq' := @Lib.run_eql_slice_nil Tryd.prog w 53 93 none 0 c 0 0 Tryd.underlying53
    clear h hok hi0 hz hs1 hby hz1 hz2 hl hq
    go_enter Tryd.func65, Tryd.ntmps65
    go_wp2_with fail
    go_ret
    exact ⟨_, rfl, RowsOf.nil _ _, Below.refl _ _⟩
  | some ad =>
    have hlen : ∀ x ∈ xs, (It.list x).length = 76 := fun x hx => It.list_length (hok x hx)
    have hcells : ∀ j u, (xs.flatMap It.list)[j]? = some u → w.cell? (ad.add j) = some u := fun j u hu => by
      cases xs with
      | nil => simp at hu
      | cons x0 xt =>
        obtain ⟨b, o, e, _⟩ := h 0 (by simp)
        cases e
        rw [Addr.add_mid]
        exact flat_range (by decide) hlen (fun k hk => by obtain ⟨b', o', e', h'⟩ := h k hk; cases e'; exact h') j u hu
    have hfl := flatMap_len xs hlen
    have hone : ∀ u ∈ xs.flatMap It.list, u.oneCell' = true := fun u hu => by
      obtain ⟨x, _, hx⟩ := List.mem_flatMap.1 hu
      exact It.list_one x u hx
    have hrow : ∀ (W : World) v, W.ownsRow w.heap.size 93 76 v xs.length (xs.flatMap It.list) → RowsOf RI 93 76 w.heap.size W (fun _ => False) v xs := fun W v hW => rowsOf_own (fun x hx => ⟨rfl, hok x hx⟩) hW
    obtain ⟨N, hN⟩ : ∃ N, N = xs.length := ⟨_, rfl⟩
    rw [← hN] at hq hfl hl hrow ⊢
    generalize xs.flatMap It.list = news at *
    replace hcells := Lib.hid hcells
    replace hone := Lib.hid hone
    replace hrow := Lib.hid hrow
    replace hfl := Lib.hid hfl
    replace hN := Lib.hid hN
    clear h hok hlen
    go_enter Tryd.func65, Tryd.ntmps65
    go_wp2_with (at_builtin; refine wpList_append_own _ rfl (.tmp 5) (.tmp 6) 53 rfl w.heap.size 93 i0 z 76 168 Tryd.underlying53 hi0 hz1 hs1 hby hz2 (by decide) _ _ _ rfl (World.ownsRow_made w #[] 0 (Nat.le_refl _) (Nat.zero_le _) (by simp)) ad N c news rfl ?qc1 ?qc2 ?qc3 ?qc4 ?qc5 ?qc6 ?_)
    case qc1 => exact hfl.out
    case qc2 =>
      intro j u hj
      exact Lib.cell?_alloc_some _ (hcells.out j u hj)
    case qc3 => exact hone.out
    case qc4 => unfold maxLen; omega
    case qc5 => omega
    case qc6 => simp
    intro v' w1 hown hgrow hnil
    have hown := Lib.hid (show w1.ownsRow w.heap.size 93 76 v' N news by simpa using hown)
    have hgrow := Lib.hid hgrow
    clear hnil
    go_wp2_with fail
    go_ret
    exact ⟨_, rfl, hrow.out _ _ hown.out, ((Below.refl _ w).alloc (Nat.le_refl _) _).grown hgrow.out (by simp) (by intro k hk; simp [Value.ownBlock] at hk; omega)⟩
def ClonePostE (w : World) (xs : List En) (x : Ending) (w' : World) : Prop := ∃ v, x = .returned v ∧ RowsOf RE 95 7 w.heap.size w' (fun _ => False) v xs ∧ Below w.heap.size w w'
set_option maxRecDepth 100000 in
set_option maxHeartbeats 1000000 in
theorem cloneE_any (a : Option Addr) (c : Nat) (xs : List En) (hok : ∀ x ∈ xs, x.Ok) (w : World) (h : RowAt En.list 7 w a xs) (hl : xs.length ≤ 100000) :
    Calls Tryd.prog 66 #[.slice a xs.length c] w (ClonePostE w xs) := by
  obtain ⟨i0, hi0, h2⟩ := Option.map_eq_some_iff.1 infoEnG
  simp only [Prod.mk.injEq] at h2
  obtain ⟨hz, hs1, hby⟩ := h2
  obtain ⟨z, hz1, hz2⟩ := Option.map_eq_some_iff.1 hz
  have hq := @Lib.run_eql_slice_nil Tryd.prog w 54 95 a xs.length c 0 0 Tryd.underlying54
  cases a with
  | none =>
    have hx : xs = [] := by
      cases xs with
      | nil => rfl
      | cons x xs => obtain ⟨b, o, e, _⟩ := h 0 (by simp); cases e
    subst hx
    have hq' := @Lib.run_eql_slice_nil Tryd.prog w 54 95 none 0 c 0 0 Tryd.underlying54
    clear h hok hi0 hz hs1 hby hz1 hz2 hl hq
    go_enter Tryd.func66, Tryd.ntmps66
    go_wp2_with fail
    go_ret
    exact ⟨_, rfl, RowsOf.nil _ _, Below.refl _ _⟩
  | some ad =>
    have hlen : ∀ x ∈ xs, (En.list x).length = 7 := fun x hx => rfl
    have hcells : ∀ j u, (xs.flatMap En.list)[j]? = some u → w.cell? (ad.add j) = some u := fun j u hu => by
      cases xs with
      | nil => simp at hu
      | cons x0 xt =>
        obtain ⟨b, o, e, _⟩ := h 0 (by simp)
        cases e
        rw [Addr.add_mid]
        exact flat_range (by decide) hlen (fun k hk => by obtain ⟨b', o', e', h'⟩ := h k hk; cases e'; exact h') j u hu
    have hfl := flatMap_len xs hlen
    have hone : ∀ u ∈ xs.flatMap En.list, u.oneCell' = true := fun u hu => by
      obtain ⟨x, _, hx⟩ := List.mem_flatMap.1 hu
      exact En.list_one x u hx
    have hrow : ∀ (W : World) v, W.ownsRow w.heap.size 95 7 v xs.length (xs.flatMap En.list) → RowsOf RE 95 7 w.heap.size W (fun _ => False) v xs := fun W v hW => rowsOf_own (fun x hx => ⟨rfl, hok x hx⟩) hW
    obtain ⟨N, hN⟩ : ∃ N, N = xs.length := ⟨_, rfl⟩
    rw [← hN] at hq hfl hl hrow ⊢
    generalize xs.flatMap En.list = news at *
    replace hcells := Lib.hid hcells
    replace hone := Lib.hid hone
    replace hrow := Lib.hid hrow
    replace hfl := Lib.hid hfl
    replace hN := Lib.hid hN
    clear h hok hlen
    go_enter Tryd.func66, Tryd.ntmps66
    go_wp2_with (at_builtin; refine wpList_append_own _ rfl (.tmp 5) (.tmp 6) 54 rfl w.heap.size 95 i0 z 7 56 Tryd.underlying54 hi0 hz1 hs1 hby hz2 (by decide) _ _ _ rfl (World.ownsRow_made w #[] 0 (Nat.le_refl _) (Nat.zero_le _) (by simp)) ad N c news rfl ?qc1 ?qc2 ?qc3 ?qc4 ?qc5 ?qc6 ?_)
    case qc1 => exact hfl.out
    case qc2 =>
      intro j u hj
      exact Lib.cell?_alloc_some _ (hcells.out j u hj)
    case qc3 => exact hone.out
    case qc4 => unfold maxLen; omega
    case qc5 => omega
    case qc6 => simp
    intro v' w1 hown hgrow hnil
    have hown := Lib.hid (show w1.ownsRow w.heap.size 95 7 v' N news by simpa using hown)
    have hgrow := Lib.hid hgrow
    clear hnil
    go_wp2_with fail
    go_ret
    exact ⟨_, rfl, hrow.out _ _ hown.out, ((Below.refl _ w).alloc (Nat.le_refl _) _).grown hgrow.out (by simp) (by intro k hk; simp [Value.ownBlock] at hk; omega)⟩
/-- What an 'apart' leaves. -/
def CopyPost (w : World) (m : St) (x : Ending) (w' : World) : Prop :=
  ∃ v v', x = .returned (.agg #[v, v']) ∧ RowsOf RI 93 76 w.heap.size w' (fun _ => False) v m.its ∧ RowsOf RE 95 7 w.heap.size w' (fun _ => False) v' m.ens ∧ (∀ k, v.ownBlock = some k → v'.ownBlock ≠ some k) ∧ Below w.heap.size w w'
set_option maxRecDepth 100000 in
set_option maxHeartbeats 1000000 in
theorem copyS_any (va : Value) (m : St) (w : World) (ha : ArgS w va m) (l1 : m.its.length ≤ 1000) (l2 : m.ens.length ≤ 1000) :
    Calls Tryd.prog 51 #[va] w (CopyPost w m) := by
  obtain ⟨⟨an, cn, av, cv, rfl, hN, hN1, hN2, hV, hV1, hV2⟩, okN, okV⟩ := ha
  obtain ⟨N, hNl⟩ : ∃ N, N = m.its.length := ⟨_, rfl⟩
  obtain ⟨V, hVl⟩ : ∃ V, V = m.ens.length := ⟨_, rfl⟩
  rw [← hNl, ← hVl]
  clear hN1 hN2 hV1 hV2
  have hB : Below w.heap.size w ((w.alloc (.cells #[.slice an N cn, .slice av V cv] 56)).alloc (.cells #[.slice none 0 0, .slice none 0 0] 56)) := ((Below.refl _ _).alloc (Nat.le_refl _) _).alloc (by simp) _
  obtain ⟨w2, hw2⟩ : ∃ w2, w2 = (w.alloc (.cells #[.slice an N cn, .slice av V cv] 56)).alloc (.cells #[.slice none 0 0, .slice none 0 0] 56) := ⟨_, rfl⟩
  have e10 : w2.cell? ⟨w.heap.size, 0, none⟩ = some (.slice an N cn) := by rw [hw2]; exact cellAfter (cell_of_block (heap_alloc_new w _) 0) _
  have e11 : w2.cell? ⟨w.heap.size, 1, none⟩ = some (.slice av V cv) := by rw [hw2]; exact cellAfter (cell_of_block (heap_alloc_new w _) 1) _
  have a2 : w2.heap[w.heap.size + 1]? = some (.cells #[.slice none 0 0, .slice none 0 0] 56 (0, 0)) := by
    have h1 := heap_alloc_new (w.alloc (.cells #[.slice an N cn, .slice av V cv] 56)) (.cells #[.slice none 0 0, .slice none 0 0] 56 (0, 0))
    rw [World.size_alloc] at h1
    rw [hw2]
    exact h1
  have hs2 : w2.heap.size = w.heap.size + 2 := by rw [hw2]; simp
  rw [← hw2] at hB
  have hd2 : Hid (Below (w.heap.size + 1) w2 w2.drew) := Lib.hid ((Below.refl _ _).drew)
  have hc0 : ∀ W : World, Below (w.heap.size + 1) w2 W → W.cell? ⟨w.heap.size, 0, none⟩ = some (.slice an N cn) := fun W hW => (hW.cell (p := ⟨w.heap.size, 0, none⟩) (Nat.lt_succ_self _)).trans e10
  have hc1 : ∀ W : World, Below (w.heap.size + 1) w2 W → W.cell? ⟨w.heap.size, 1, none⟩ = some (.slice av V cv) := fun W hW => (hW.cell (p := ⟨w.heap.size, 1, none⟩) (Nat.lt_succ_self _)).trans e11
  have hcn : ∀ W : World, Below (w.heap.size + 1) w2 W → Calls Tryd.prog 65 #[.slice an N cn] W (ClonePostI W m.its) := fun W hW => by
    have := cloneI_any an cn m.its okN W (hN.below (hB.trans (hW.mono (Nat.le_succ _))) (Nat.le_refl _)) (by omega)
    rwa [← hNl] at this
  have hcv : ∀ W : World, Below (w.heap.size + 1) w2 W → Calls Tryd.prog 66 #[.slice av V cv] W (ClonePostE W m.ens) := fun W hW => by
    have := cloneE_any av cv m.ens okV W (hV.below (hB.trans (hW.mono (Nat.le_succ _))) (Nat.le_refl _)) (by omega)
    rwa [← hVl] at this
  have huM : Tryd.prog.underlying 56 = _ := Tryd.underlying56
  replace hs2 := Lib.hid hs2
  replace hcn := Lib.hid hcn
  replace hcv := Lib.hid hcv
  replace hw2 := Lib.hid hw2
  replace a2 := Lib.hid a2
  replace hB := Lib.hid hB
  replace hNl := Lib.hid hNl
  replace hVl := Lib.hid hVl
  replace okN := Lib.hid okN
  replace okV := Lib.hid okV
  replace hN := Lib.hid hN
  replace hV := Lib.hid hV
  clear e10 e11
  go_enter Tryd.func51, Tryd.ntmps51
  go_wp2_with fail
  rw [← hw2.out]
  clear hw2
  replace a2 : Hid (w2.drew.heap[w.heap.size + 1]? = some (.cells #[.slice none 0 0, .slice none 0 0] 56 (0, 0))) := Lib.hid a2.out
  refine wp_region_held_drew (S := (Below (w.heap.size + 1) w2)) (by kernel_rfl) hd2.out (fun hOn => ?_)
  generalize World.drew w2 = wd at *
  refine wpAnyH_take (i := 0) (v := ?_) (by simp only [List.getElem?_toArray, List.getElem?_cons_zero]; rfl) (by kernel_rfl) (by kernel_rfl) (by kernel_rfl) (by exact fun _ _ _ h => h) (Or.inl ⟨by rfl, ?_⟩) hOn ?_
  rotate_left
  focus (intro W hSW; go_simp; try with_reducible rfl)
  try simp only [Act.put, List.setIfInBounds_toArray, List.set_cons_zero, List.set_cons_succ]
  refine wpAnyH_take (i := 1) (v := ?_) (by simp only [List.getElem?_toArray, List.getElem?_cons_succ, List.getElem?_cons_zero]; rfl) (by kernel_rfl) (by kernel_rfl) (by kernel_rfl) (by exact fun _ _ _ h => h) (Or.inl ⟨by rfl, ?_⟩) hOn ?_
  rotate_left
  focus (intro W hSW; go_simp; try with_reducible rfl)
  try simp only [Act.put, List.setIfInBounds_toArray, List.set_cons_zero, List.set_cons_succ]
  refine wpAnyH_take (i := 3) (v := ?_) (by simp only [List.getElem?_toArray, List.getElem?_cons_succ, List.getElem?_cons_zero]; rfl) (by kernel_rfl) (by kernel_rfl) (by kernel_rfl) (by exact fun _ _ _ h => h) (Or.inl ⟨by rfl, ?_⟩) hOn ?_
  rotate_left
  focus (intro W hSW; go_simp; try with_reducible rfl)
  try simp only [Act.put, List.setIfInBounds_toArray, List.set_cons_zero, List.set_cons_succ]
  refine wpAnyH_take (i := 4) (v := ?_) (by simp only [List.getElem?_toArray, List.getElem?_cons_succ, List.getElem?_cons_zero]; rfl) (by kernel_rfl) (by kernel_rfl) (by kernel_rfl) (by exact fun _ _ _ h => h) (Or.inl ⟨by rfl, ?_⟩) hOn ?_
  rotate_left
  focus (intro W hSW; go_simp; try with_reducible rfl)
  try simp only [Act.put, List.setIfInBounds_toArray, List.set_cons_zero, List.set_cons_succ]
  refine wpAnyH_ready (rs := [2]) (by kernel_rfl) (by simp) ?_
  refine AllReadyH.cons (by simp only [List.getElem?_toArray, List.getElem?_cons_succ, List.getElem?_cons_zero]; rfl) (fun Kz hKz => ?_) AllReadyH.nil
  go_simp
  (with_reducible refine (hcn.out _ hOn).mono ?_)
  rintro e w3 ⟨v3, rfl, hr3, hnew⟩
  obtain ⟨a3, n3, c3, hv3⟩ : ∃ a n c, v3 = .slice a n c := (by obtain ⟨a, c, e, _⟩ := hr3.form; exact ⟨a, _, c, e⟩)
  subst hv3
  have hS := hOn.trans (hnew.mono (by have := hOn.size; have := hs2.out; omega))
  replace a2 := Lib.hid ((hnew.block _ (block_lt a2.out)).trans a2.out)
  have hlo3 := Lib.hid hOn.size
  have hlt3 := Lib.hid (show ∀ k, (Value.slice a3 n3 c3).ownBlock = some k → k < w3.heap.size from fun k hk => (hr3.ownLt k hk).2)
  replace hr3 := Lib.hid hr3
  (try replace hr4 := Lib.hid (hr4.out.below liesRE hnew))
  focus (go_wp2_with fail)
  refine hKz.out _ _ (by first | exact hS | exact Below.trans hOn (Below.mono hnew (Below.size hOn))) (fun hNext => ?_)
  clear hKz Kz hOn
  have hOn := hNext
  clear hNext
  try clear hnew
  try clear hS
  try simp only [Act.put, List.setIfInBounds_toArray, List.set_cons_zero, List.set_cons_succ]
  refine wpAnyH_ready (rs := [5]) (by kernel_rfl) (by simp) ?_
  refine AllReadyH.cons (by simp only [List.getElem?_toArray, List.getElem?_cons_succ, List.getElem?_cons_zero]; rfl) (fun Kz hKz => ?_) AllReadyH.nil
  go_simp
  (with_reducible refine (hcv.out _ hOn).mono ?_)
  rintro e w4 ⟨v4, rfl, hr4, hnew⟩
  obtain ⟨a4, n4, c4, hv4⟩ : ∃ a n c, v4 = .slice a n c := (by obtain ⟨a, c, e, _⟩ := hr4.form; exact ⟨a, _, c, e⟩)
  subst hv4
  have hS := hOn.trans (hnew.mono (by have := hOn.size; have := hs2.out; omega))
  replace a2 := Lib.hid ((hnew.block _ (block_lt a2.out)).trans a2.out)
  have hlo4 := Lib.hid hOn.size
  replace hr4 := Lib.hid hr4
  (try replace hr3 := Lib.hid (hr3.out.below liesRI hnew))
  focus (go_wp2_with fail)
  refine hKz.out _ _ (by first | exact hS | exact Below.trans hOn (Below.mono hnew (Below.size hOn))) (fun hNext => ?_)
  clear hKz Kz hOn
  have hOn := hNext
  clear hNext
  try clear hnew
  try clear hS
  try simp only [Act.put, List.setIfInBounds_toArray, List.set_cons_zero, List.set_cons_succ]
  refine wpAnyH_take (i := 6) (v := ?_) (by simp only [List.getElem?_toArray, List.getElem?_cons_succ, List.getElem?_cons_zero]; rfl) (by kernel_rfl) (by kernel_rfl) (by kernel_rfl) (by exact fun _ _ _ h => h) (Or.inl ⟨by rfl, ?_⟩) hOn ?_
  rotate_left
  focus (intro W hSW; go_simp; try with_reducible rfl)
  try simp only [Act.put, List.setIfInBounds_toArray, List.set_cons_zero, List.set_cons_succ]
  refine wpAnyH_ready (rs := [7]) (by kernel_rfl) (by simp) ?_
  refine AllReadyH.cons (by simp only [List.getElem?_toArray, List.getElem?_cons_succ, List.getElem?_cons_zero]; rfl) (fun Kz hKz => ?_) AllReadyH.nil
  rw [if_pos (by rfl)]
  (with_reducible refine wp_store_rowK 56 (.tmp 2) (.tmp 9) rfl (w.heap.size + 1) #[.slice none 0 0, .slice none 0 0] #[.slice a3 n3 c3, .slice a4 n4 c4] rfl rfl a2 (by kernel_rfl) rfl (by simp [Value.oneCell']) ?_)
  intro w5 hU5
  have hS := hOn.trans (hU5.out.below (Nat.le_refl _))
  have hr5 := Lib.hid (hr3.out.only liesRI (Only.ofUpd (D := fun k => k = w.heap.size + 1) hU5.out rfl) (fun k hk => hk.elim) (fun k hk e => by have := (hr3.out.ownLt k hk).1; have := hlo3.out; have := hs2.out; omega))
  have hr6 := Lib.hid (hr4.out.only liesRE (Only.ofUpd (D := fun k => k = w.heap.size + 1) hU5.out rfl) (fun k hk => hk.elim) (fun k hk e => by have := (hr4.out.ownLt k hk).1; have := hlo4.out; have := hs2.out; omega))
  refine hKz.out _ _ (by first | exact hS | exact Below.trans hOn (Below.mono hnew (Below.size hOn))) (fun hNext => ?_)
  clear hKz Kz hOn
  have hOn := hNext
  clear hNext
  try clear hnew
  try clear hS
  try simp only [Act.put]
  refine wpAnyH_done (by kernel_rfl) ?_ _
  all_goals
    go_wp2_with fail
    refine ret_cell_row (c := #[.slice a3 n3 c3, .slice a4 n4 c4]) rfl rfl huM rfl (by kernel_rfl) hU5.out.here ?_
    have hs2 := hs2.out
    have hlo3 := hlo3.out
    have hlo4 := hlo4.out
    refine ⟨_, _, rfl, hr5.out.mono (by omega), hr6.out.mono (by omega), fun k h1 h2 => ?_, hB.out.trans (hOn.mono (Nat.le_succ _))⟩
    have h3 := hlt3.out k h1
    have h4 := (hr6.out.ownLt k h2).1
    omega
end Go.Proofs.YtpehdoepcpmnbaaDoor
