/- The walks over slices.Clone of names and of verdicts, and over model.apart. -/
import Derived.Test.YtndgacjfkoliaaaDoorF6PlaysSaid34
import Derived.Test.YtndgacjfkoliaaaDoorF7PlaysSaid34
import Derived.Test.YtndgacjfkoliaaaDoorF4PlaysSaid34
namespace Go.Proofs.YtndgacjfkoliaaaDoor
open Go.RowKit

def ClonePostN (w : World) (xs : List Nm) (x : Ending) (w' : World) : Prop := ∃ v, x = .returned v ∧ RowsOf RN 69 40 w.heap.size w' (fun _ => False) v xs ∧ Below w.heap.size w w'
set_option maxRecDepth 100000 in
set_option maxHeartbeats 1000000 in
theorem cloneN_any (a : Option Addr) (c : Nat) (xs : List Nm) (hok : ∀ x ∈ xs, x.Ok) (w : World) (h : RowAt Nm.list 40 w a xs) (hl : xs.length ≤ 100000) :
    Calls Tryd.prog 39 #[.slice a xs.length c] w (ClonePostN w xs) := by
  obtain ⟨i0, hi0, h2⟩ := Option.map_eq_some_iff.1 infoNmG
  simp only [Prod.mk.injEq] at h2
  obtain ⟨hz, hs1, hby⟩ := h2
  obtain ⟨z, hz1, hz2⟩ := Option.map_eq_some_iff.1 hz
  have hq := @Lib.run_eql_slice_nil Tryd.prog w 25 69 a xs.length c 0 0 Tryd.underlying25
  cases a with
  | none =>
    have hx : xs = [] := by
      cases xs with
      | nil => rfl
      | cons x xs => obtain ⟨b, o, e, _⟩ := h 0 (by simp); cases e
    subst hx
    have hq' := @Lib.run_eql_slice_nil Tryd.prog w 25 69 none 0 c 0 0 Tryd.underlying25
    clear h hok hi0 hz hs1 hby hz1 hz2 hl hq
    go_enter Tryd.func39, Tryd.ntmps39
    go_wp2_with fail
    go_ret
    exact ⟨_, rfl, RowsOf.nil _ _, Below.refl _ _⟩
  | some ad =>
    have hlen : ∀ x ∈ xs, (Nm.list x).length = 40 := fun x hx => Nm.list_length (hok x hx).f
    have hcells : ∀ j u, (xs.flatMap Nm.list)[j]? = some u → w.cell? (ad.add j) = some u := fun j u hu => by
      cases xs with
      | nil => simp at hu
      | cons x0 xt =>
        obtain ⟨b, o, e, _⟩ := h 0 (by simp)
        cases e
        rw [Addr.add_mid]
        exact flat_range (by decide) hlen (fun k hk => by obtain ⟨b', o', e', h'⟩ := h k hk; cases e'; exact h') j u hu
    have hfl := flatMap_len xs hlen
    have hone : ∀ u ∈ xs.flatMap Nm.list, u.oneCell' = true := fun u hu => by
      obtain ⟨x, _, hx⟩ := List.mem_flatMap.1 hu
      exact Nm.list_one x u hx
    have hrow : ∀ (W : World) v, W.ownsRow w.heap.size 69 40 v xs.length (xs.flatMap Nm.list) → RowsOf RN 69 40 w.heap.size W (fun _ => False) v xs := fun W v hW => rowsOf_own (fun x hx => ⟨rfl, hok x hx⟩) hW
    obtain ⟨N, hN⟩ : ∃ N, N = xs.length := ⟨_, rfl⟩
    rw [← hN] at hq hfl hl hrow ⊢
    generalize xs.flatMap Nm.list = news at *
    replace hcells := Lib.hid hcells
    replace hone := Lib.hid hone
    replace hrow := Lib.hid hrow
    replace hfl := Lib.hid hfl
    replace hN := Lib.hid hN
    clear h hok hlen
    go_enter Tryd.func39, Tryd.ntmps39
    go_wp2_with (at_builtin; refine wpList_append_own _ rfl (.tmp 5) (.tmp 6) 25 rfl w.heap.size 69 i0 z 40 104 Tryd.underlying25 hi0 hz1 hs1 hby hz2 (by decide) _ _ _ rfl (World.ownsRow_made w #[] 0 (Nat.le_refl _) (Nat.zero_le _) (by simp)) ad N c news rfl ?qc1 ?qc2 ?qc3 ?qc4 ?qc5 ?qc6 ?_)
    case qc1 => exact hfl.out
    case qc2 =>
      intro j u hj
      exact Lib.cell?_alloc_some _ (hcells.out j u hj)
    case qc3 => exact hone.out
    case qc4 => unfold maxLen; omega
    case qc5 => omega
    case qc6 => simp
    intro v' w1 hown hgrow hnil
    have hown := Lib.hid (show w1.ownsRow w.heap.size 69 40 v' N news by simpa using hown)
    have hgrow := Lib.hid hgrow
    clear hnil
    go_wp2_with fail
    go_ret
    exact ⟨_, rfl, hrow.out _ _ hown.out, ((Below.refl _ w).alloc (Nat.le_refl _) _).grown hgrow.out (by simp) (by intro k hk; simp [Value.ownBlock] at hk; omega)⟩
def ClonePostV (w : World) (xs : List Vd) (x : Ending) (w' : World) : Prop := ∃ v, x = .returned v ∧ RowsOf RV 70 3 w.heap.size w' (fun _ => False) v xs ∧ Below w.heap.size w w'
set_option maxRecDepth 100000 in
set_option maxHeartbeats 1000000 in
theorem cloneV_any (a : Option Addr) (c : Nat) (xs : List Vd) (hok : ∀ x ∈ xs, x.Ok) (w : World) (h : RowAt Vd.list 3 w a xs) (hl : xs.length ≤ 100000) :
    Calls Tryd.prog 40 #[.slice a xs.length c] w (ClonePostV w xs) := by
  obtain ⟨i0, hi0, h2⟩ := Option.map_eq_some_iff.1 infoVdG
  simp only [Prod.mk.injEq] at h2
  obtain ⟨hz, hs1, hby⟩ := h2
  obtain ⟨z, hz1, hz2⟩ := Option.map_eq_some_iff.1 hz
  have hq := @Lib.run_eql_slice_nil Tryd.prog w 26 70 a xs.length c 0 0 Tryd.underlying26
  cases a with
  | none =>
    have hx : xs = [] := by
      cases xs with
      | nil => rfl
      | cons x xs => obtain ⟨b, o, e, _⟩ := h 0 (by simp); cases e
    subst hx
    have hq' := @Lib.run_eql_slice_nil Tryd.prog w 26 70 none 0 c 0 0 Tryd.underlying26
    clear h hok hi0 hz hs1 hby hz1 hz2 hl hq
    go_enter Tryd.func40, Tryd.ntmps40
    go_wp2_with fail
    go_ret
    exact ⟨_, rfl, RowsOf.nil _ _, Below.refl _ _⟩
  | some ad =>
    have hlen : ∀ x ∈ xs, (Vd.list x).length = 3 := fun x hx => rfl
    have hcells : ∀ j u, (xs.flatMap Vd.list)[j]? = some u → w.cell? (ad.add j) = some u := fun j u hu => by
      cases xs with
      | nil => simp at hu
      | cons x0 xt =>
        obtain ⟨b, o, e, _⟩ := h 0 (by simp)
        cases e
        rw [Addr.add_mid]
        exact flat_range (by decide) hlen (fun k hk => by obtain ⟨b', o', e', h'⟩ := h k hk; cases e'; exact h') j u hu
    have hfl := flatMap_len xs hlen
    have hone : ∀ u ∈ xs.flatMap Vd.list, u.oneCell' = true := fun u hu => by
      obtain ⟨x, _, hx⟩ := List.mem_flatMap.1 hu
      exact Vd.list_one x u hx
    have hrow : ∀ (W : World) v, W.ownsRow w.heap.size 70 3 v xs.length (xs.flatMap Vd.list) → RowsOf RV 70 3 w.heap.size W (fun _ => False) v xs := fun W v hW => rowsOf_own (fun x hx => ⟨rfl, hok x hx⟩) hW
    obtain ⟨N, hN⟩ : ∃ N, N = xs.length := ⟨_, rfl⟩
    rw [← hN] at hq hfl hl hrow ⊢
    generalize xs.flatMap Vd.list = news at *
    replace hcells := Lib.hid hcells
    replace hone := Lib.hid hone
    replace hrow := Lib.hid hrow
    replace hfl := Lib.hid hfl
    replace hN := Lib.hid hN
    clear h hok hlen
    go_enter Tryd.func40, Tryd.ntmps40
    go_wp2_with (at_builtin; refine wpList_append_own _ rfl (.tmp 5) (.tmp 6) 26 rfl w.heap.size 70 i0 z 3 24 Tryd.underlying26 hi0 hz1 hs1 hby hz2 (by decide) _ _ _ rfl (World.ownsRow_made w #[] 0 (Nat.le_refl _) (Nat.zero_le _) (by simp)) ad N c news rfl ?qc1 ?qc2 ?qc3 ?qc4 ?qc5 ?qc6 ?_)
    case qc1 => exact hfl.out
    case qc2 =>
      intro j u hj
      exact Lib.cell?_alloc_some _ (hcells.out j u hj)
    case qc3 => exact hone.out
    case qc4 => unfold maxLen; omega
    case qc5 => omega
    case qc6 => simp
    intro v' w1 hown hgrow hnil
    have hown := Lib.hid (show w1.ownsRow w.heap.size 70 3 v' N news by simpa using hown)
    have hgrow := Lib.hid hgrow
    clear hnil
    go_wp2_with fail
    go_ret
    exact ⟨_, rfl, hrow.out _ _ hown.out, ((Below.refl _ w).alloc (Nat.le_refl _) _).grown hgrow.out (by simp) (by intro k hk; simp [Value.ownBlock] at hk; omega)⟩
/-- What an 'apart' leaves. -/
def ApartPost (w : World) (m : Md) (x : Ending) (w' : World) : Prop :=
  ∃ v v', x = .returned (.agg #[v, v']) ∧ RowsOf RN 69 40 w.heap.size w' (fun _ => False) v m.ns ∧ RowsOf RV 70 3 w.heap.size w' (fun _ => False) v' m.vs ∧ (∀ k, v.ownBlock = some k → v'.ownBlock ≠ some k) ∧ Below w.heap.size w w'
set_option maxRecDepth 100000 in
set_option maxHeartbeats 1000000 in
theorem apart_any (va : Value) (m : Md) (w : World) (ha : ArgM w va m) (l1 : m.ns.length ≤ 1000) (l2 : m.vs.length ≤ 1000) :
    Calls Tryd.prog 31 #[va] w (ApartPost w m) := by
  obtain ⟨⟨an, cn, av, cv, rfl, hN, hN1, hN2, hV, hV1, hV2⟩, okN, okV⟩ := ha
  obtain ⟨N, hNl⟩ : ∃ N, N = m.ns.length := ⟨_, rfl⟩
  obtain ⟨V, hVl⟩ : ∃ V, V = m.vs.length := ⟨_, rfl⟩
  rw [← hNl, ← hVl]
  clear hN1 hN2 hV1 hV2
  have hB : Below w.heap.size w ((w.alloc (.cells #[.slice an N cn, .slice av V cv] 28)).alloc (.cells #[.slice none 0 0, .slice none 0 0] 28)) := ((Below.refl _ _).alloc (Nat.le_refl _) _).alloc (by simp) _
  obtain ⟨w2, hw2⟩ : ∃ w2, w2 = (w.alloc (.cells #[.slice an N cn, .slice av V cv] 28)).alloc (.cells #[.slice none 0 0, .slice none 0 0] 28) := ⟨_, rfl⟩
  have e10 : w2.cell? ⟨w.heap.size, 0, none⟩ = some (.slice an N cn) := by rw [hw2]; exact cellAfter (cell_of_block (heap_alloc_new w _) 0) _
  have e11 : w2.cell? ⟨w.heap.size, 1, none⟩ = some (.slice av V cv) := by rw [hw2]; exact cellAfter (cell_of_block (heap_alloc_new w _) 1) _
  have a2 : w2.heap[w.heap.size + 1]? = some (.cells #[.slice none 0 0, .slice none 0 0] 28 (0, 0)) := by
    have h1 := heap_alloc_new (w.alloc (.cells #[.slice an N cn, .slice av V cv] 28)) (.cells #[.slice none 0 0, .slice none 0 0] 28 (0, 0))
    rw [World.size_alloc] at h1
    rw [hw2]
    exact h1
  have hs2 : w2.heap.size = w.heap.size + 2 := by rw [hw2]; simp
  rw [← hw2] at hB
  have hd2 : Hid (Below (w.heap.size + 1) w2 w2.drew) := Lib.hid ((Below.refl _ _).drew)
  have hc0 : ∀ W : World, Below (w.heap.size + 1) w2 W → W.cell? ⟨w.heap.size, 0, none⟩ = some (.slice an N cn) := fun W hW => (hW.cell (p := ⟨w.heap.size, 0, none⟩) (Nat.lt_succ_self _)).trans e10
  have hc1 : ∀ W : World, Below (w.heap.size + 1) w2 W → W.cell? ⟨w.heap.size, 1, none⟩ = some (.slice av V cv) := fun W hW => (hW.cell (p := ⟨w.heap.size, 1, none⟩) (Nat.lt_succ_self _)).trans e11
  have hcn : ∀ W : World, Below (w.heap.size + 1) w2 W → Calls Tryd.prog 39 #[.slice an N cn] W (ClonePostN W m.ns) := fun W hW => by
    have := cloneN_any an cn m.ns okN W (hN.below (hB.trans (hW.mono (Nat.le_succ _))) (Nat.le_refl _)) (by omega)
    rwa [← hNl] at this
  have hcv : ∀ W : World, Below (w.heap.size + 1) w2 W → Calls Tryd.prog 40 #[.slice av V cv] W (ClonePostV W m.vs) := fun W hW => by
    have := cloneV_any av cv m.vs okV W (hV.below (hB.trans (hW.mono (Nat.le_succ _))) (Nat.le_refl _)) (by omega)
    rwa [← hVl] at this
  have huM : Tryd.prog.underlying 28 = _ := Tryd.underlying28
  replace hs2 := Lib.hid hs2
  replace hcn := Lib.hid hcn
  replace hcv := Lib.hid hcv
  replace hw2 := Lib.hid hw2
  replace a2 := Lib.hid a2
  replace hB := Lib.hid hB
  replace hNl := Lib.hid hNl
  replace hVl := Lib.hid hVl
  replace okN := Lib.hid okN
  replace okV := Lib.hid okV
  replace hN := Lib.hid hN
  replace hV := Lib.hid hV
  clear e10 e11
  go_enter Tryd.func31, Tryd.ntmps31
  go_wp2_with fail
  rw [← hw2.out]
  clear hw2
  replace a2 : Hid (w2.drew.heap[w.heap.size + 1]? = some (.cells #[.slice none 0 0, .slice none 0 0] 28 (0, 0))) := Lib.hid a2.out
  refine wp_region_held_drew (S := (Below (w.heap.size + 1) w2)) (by kernel_rfl) hd2.out (fun hOn => ?_)
  generalize World.drew w2 = wd at *
  refine wpAnyH_take (i := 0) (v := ?_) (by simp only [List.getElem?_toArray, List.getElem?_cons_zero]; rfl) (by kernel_rfl) (by kernel_rfl) (by kernel_rfl) (by exact fun _ _ _ h => h) (Or.inl ⟨by rfl, ?_⟩) hOn ?_
  rotate_left
  focus (intro W hSW; go_simp; try with_reducible rfl)
  try simp only [Act.put, List.setIfInBounds_toArray, List.set_cons_zero, List.set_cons_succ]
  refine wpAnyH_take (i := 1) (v := ?_) (by simp only [List.getElem?_toArray, List.getElem?_cons_succ, List.getElem?_cons_zero]; rfl) (by kernel_rfl) (by kernel_rfl) (by kernel_rfl) (by exact fun _ _ _ h => h) (Or.inl ⟨by rfl, ?_⟩) hOn ?_
  rotate_left
  focus (intro W hSW; go_simp; try with_reducible rfl)
  try simp only [Act.put, List.setIfInBounds_toArray, List.set_cons_zero, List.set_cons_succ]
  refine wpAnyH_take (i := 3) (v := ?_) (by simp only [List.getElem?_toArray, List.getElem?_cons_succ, List.getElem?_cons_zero]; rfl) (by kernel_rfl) (by kernel_rfl) (by kernel_rfl) (by exact fun _ _ _ h => h) (Or.inl ⟨by rfl, ?_⟩) hOn ?_
  rotate_left
  focus (intro W hSW; go_simp; try with_reducible rfl)
  try simp only [Act.put, List.setIfInBounds_toArray, List.set_cons_zero, List.set_cons_succ]
  refine wpAnyH_take (i := 4) (v := ?_) (by simp only [List.getElem?_toArray, List.getElem?_cons_succ, List.getElem?_cons_zero]; rfl) (by kernel_rfl) (by kernel_rfl) (by kernel_rfl) (by exact fun _ _ _ h => h) (Or.inl ⟨by rfl, ?_⟩) hOn ?_
  rotate_left
  focus (intro W hSW; go_simp; try with_reducible rfl)
  try simp only [Act.put, List.setIfInBounds_toArray, List.set_cons_zero, List.set_cons_succ]
  refine wpAnyH_ready (rs := [2]) (by kernel_rfl) (by simp) ?_
  refine AllReadyH.cons (by simp only [List.getElem?_toArray, List.getElem?_cons_succ, List.getElem?_cons_zero]; rfl) (fun Kz hKz => ?_) AllReadyH.nil
  go_simp
  (with_reducible refine (hcn.out _ hOn).mono ?_)
  rintro e w3 ⟨v3, rfl, hr3, hnew⟩
  obtain ⟨a3, n3, c3, hv3⟩ : ∃ a n c, v3 = .slice a n c := (by obtain ⟨a, c, e, _⟩ := hr3.form; exact ⟨a, _, c, e⟩)
  subst hv3
  have hS := hOn.trans (hnew.mono (by have := hOn.size; have := hs2.out; omega))
  replace a2 := Lib.hid ((hnew.block _ (block_lt a2.out)).trans a2.out)
  have hlo3 := Lib.hid hOn.size
  have hlt3 := Lib.hid (show ∀ k, (Value.slice a3 n3 c3).ownBlock = some k → k < w3.heap.size from fun k hk => (hr3.ownLt k hk).2)
  replace hr3 := Lib.hid hr3
  (try replace hr4 := Lib.hid (hr4.out.below liesRV hnew))
  focus (go_wp2_with fail)
  refine hKz.out _ _ (by first | exact hS | exact Below.trans hOn (Below.mono hnew (Below.size hOn))) (fun hNext => ?_)
  clear hKz Kz hOn
  have hOn := hNext
  clear hNext
  try clear hnew
  try clear hS
  try simp only [Act.put, List.setIfInBounds_toArray, List.set_cons_zero, List.set_cons_succ]
  refine wpAnyH_ready (rs := [5]) (by kernel_rfl) (by simp) ?_
  refine AllReadyH.cons (by simp only [List.getElem?_toArray, List.getElem?_cons_succ, List.getElem?_cons_zero]; rfl) (fun Kz hKz => ?_) AllReadyH.nil
  go_simp
  (with_reducible refine (hcv.out _ hOn).mono ?_)
  rintro e w4 ⟨v4, rfl, hr4, hnew⟩
  obtain ⟨a4, n4, c4, hv4⟩ : ∃ a n c, v4 = .slice a n c := (by obtain ⟨a, c, e, _⟩ := hr4.form; exact ⟨a, _, c, e⟩)
  subst hv4
  have hS := hOn.trans (hnew.mono (by have := hOn.size; have := hs2.out; omega))
  replace a2 := Lib.hid ((hnew.block _ (block_lt a2.out)).trans a2.out)
  have hlo4 := Lib.hid hOn.size
  replace hr4 := Lib.hid hr4
  (try replace hr3 := Lib.hid (hr3.out.below liesRN hnew))
  focus (go_wp2_with fail)
  refine hKz.out _ _ (by first | exact hS | exact Below.trans hOn (Below.mono hnew (Below.size hOn))) (fun hNext => ?_)
  clear hKz Kz hOn
  have hOn := hNext
  clear hNext
  try clear hnew
  try clear hS
  try simp only [Act.put, List.setIfInBounds_toArray, List.set_cons_zero, List.set_cons_succ]
  refine wpAnyH_take (i := 6) (v := ?_) (by simp only [List.getElem?_toArray, List.getElem?_cons_succ, List.getElem?_cons_zero]; rfl) (by kernel_rfl) (by kernel_rfl) (by kernel_rfl) (by exact fun _ _ _ h => h) (Or.inl ⟨by rfl, ?_⟩) hOn ?_
  rotate_left
  focus (intro W hSW; go_simp; try with_reducible rfl)
  try simp only [Act.put, List.setIfInBounds_toArray, List.set_cons_zero, List.set_cons_succ]
  refine wpAnyH_ready (rs := [7]) (by kernel_rfl) (by simp) ?_
  refine AllReadyH.cons (by simp only [List.getElem?_toArray, List.getElem?_cons_succ, List.getElem?_cons_zero]; rfl) (fun Kz hKz => ?_) AllReadyH.nil
  rw [if_pos (by rfl)]
  (with_reducible refine wp_store_rowK 28 (.tmp 2) (.tmp 9) rfl (w.heap.size + 1) #[.slice none 0 0, .slice none 0 0] #[.slice a3 n3 c3, .slice a4 n4 c4] rfl rfl a2 (by kernel_rfl) rfl (by simp [Value.oneCell']) ?_)
  intro w5 hU5
  have hS := hOn.trans (hU5.out.below (Nat.le_refl _))
  have hr5 := Lib.hid (hr3.out.only liesRN (Only.ofUpd (D := fun k => k = w.heap.size + 1) hU5.out rfl) (fun k hk => hk.elim) (fun k hk e => by have := (hr3.out.ownLt k hk).1; have := hlo3.out; have := hs2.out; omega))
  have hr6 := Lib.hid (hr4.out.only liesRV (Only.ofUpd (D := fun k => k = w.heap.size + 1) hU5.out rfl) (fun k hk => hk.elim) (fun k hk e => by have := (hr4.out.ownLt k hk).1; have := hlo4.out; have := hs2.out; omega))
  refine hKz.out _ _ (by first | exact hS | exact Below.trans hOn (Below.mono hnew (Below.size hOn))) (fun hNext => ?_)
  clear hKz Kz hOn
  have hOn := hNext
  clear hNext
  try clear hnew
  try clear hS
  try simp only [Act.put]
  refine wpAnyH_done (by kernel_rfl) ?_ _
  all_goals
    go_wp2_with fail
    refine ret_cell_row (c := #[.slice a3 n3 c3, .slice a4 n4 c4]) rfl rfl huM rfl (by kernel_rfl) hU5.out.here ?_
    have hs2 := hs2.out
    have hlo3 := hlo3.out
    have hlo4 := hlo4.out
    refine ⟨_, _, rfl, hr5.out.mono (by omega), hr6.out.mono (by omega), fun k h1 h2 => ?_, hB.out.trans (hOn.mono (Nat.le_succ _))⟩
    have h3 := hlt3.out k h1
    have h4 := (hr6.out.ownLt k h2).1
    omega
end Go.Proofs.YtndgacjfkoliaaaDoor
