/- The walk over disk.Copy: maps.Clone by the library's contract at this program, slices.Clone of the writes. -/
import Derived.Shelf.SlLaysW
import Derived.Shelf.SlMaps.Clone
import Derived.Test.YtdgilgnaoifpcaaDoorAlive18
import Derived.Test.YtdgilgnaoifpcaaDoorOnL
import Derived.Test.YtdgilgnaoifpcaaDoorOnL
namespace Go.Proofs
open Go.Shelf
def Tryd.mc_ren : Go.Shelf.Ren := ⟨fun | 5 => 33 | 7 => 40 | n => n, fun | 23 => 56 | 25 => 3 | 3 => 62 | 4 => 4 | 20 => 20 | n => n, fun | n => n⟩
theorem Tryd.mc : Go.Proofs.SlLaysW.n5 Tryd.prog Tryd.mc_ren := {
  mixed := by kernel_rfl
  f5 := ⟨Tryd.f33.name, by decide, Tryd.func33.trans (congrArg some (by kernel_rfl))⟩
  f7 := Tryd.func40.trans (congrArg some (by kernel_rfl))
  t4 := Tryd.underlying4
  a4 := Tryd.isAgg4
  z4 := Tryd.sizeOf4
  v4 := Tryd.zeroValue4
  t20 := Tryd.underlying20
  a20 := Tryd.isAgg20
  z20 := Tryd.sizeOf20
  v20 := Tryd.zeroValue20
  t23 := Tryd.underlying56
  a23 := Tryd.isAgg56
  z23 := Tryd.sizeOf56
  v23 := Tryd.zeroValue56 }
namespace YtdgilgnaoifpcaaDoor
open Go.RowKit

theorem mclone_any {w : World} {mb mn : Nat} {f : Int → List UInt8} (h : SureMap w mb mn f) :
    Calls Tryd.prog 33 #[.map (some mb)] w fun x w' => x = .returned (.map (some w.heap.size)) ∧ SureMap w' w.heap.size mn f ∧ Below w.heap.size w w' := by
  obtain ⟨D, h1, h2, h3, h4⟩ := h
  refine (AnyW.maps_Clone_owns Tryd.mc 3 secR mb mn D w h1).mono ?_
  rintro x w' ⟨rfl, k1, _, k3⟩
  exact ⟨rfl, ⟨D, k1, h2, h3, h4⟩, k3⟩
theorem wcellsW_one (ws : List (Int × List UInt8)) : ∀ u ∈ wcellsW ws, u.oneCell' = true := by
  intro u hu
  obtain ⟨q, _, hq⟩ := List.mem_flatMap.1 hu
  rcases List.mem_cons.1 hq with rfl | hq
  · rfl
  · exact cB_one _ u hq
theorem infoWt : (Tryd.prog.info? 64).map (fun i => (i.zero.map (·.cells.size), i.size, i.bytes)) = some (some 65, 65, 72) := by kernel_rfl
set_option maxRecDepth 100000 in
set_option maxHeartbeats 1000000 in
theorem cloneWt_any {base : Nat} {v : Value} {ws : List (Int × List UInt8)} {w : World} (h : w.ownsRow base 64 65 v ws.length (wcellsW ws)) (hl : ws.length ≤ 100000) :
    Calls Tryd.prog 34 #[v] w fun x w' => ∃ v', x = .returned v' ∧ w'.ownsRow w.heap.size 64 65 v' ws.length (wcellsW ws) ∧ Below w.heap.size w w' := by
  obtain ⟨i0, hi0, h2⟩ := Option.map_eq_some_iff.1 infoWt
  simp only [Prod.mk.injEq] at h2
  obtain ⟨hz, hs1, hby⟩ := h2
  obtain ⟨z, hz1, hz2⟩ := Option.map_eq_some_iff.1 hz
  rcases h.2 with ⟨rfl, h0⟩ | ⟨g, cap, cur, rfl, _, _, _, hcm, _, _⟩
  · have hws : ws = [] := List.eq_nil_of_length_eq_zero h0
    subst hws
    have hq' := @Lib.run_eql_slice_nil Tryd.prog w 57 64 none 0 0 0 0 Tryd.underlying57
    clear h hi0 hz hs1 hby hz1 hz2 hl
    go_enter Tryd.func34, Tryd.ntmps34
    go_wp2_with fail
    go_ret
    exact ⟨_, rfl, ⟨rfl, .inl ⟨rfl, rfl⟩⟩, Below.refl _ _⟩
  · have hfl := h.1
    have hcells := h.cells (g := g) rfl
    have hone := wcellsW_one ws
    obtain ⟨N, hN⟩ : ∃ N, N = ws.length := ⟨_, rfl⟩
    rw [← hN] at hfl hl ⊢
    have hq := @Lib.run_eql_slice_nil Tryd.prog w 57 64 (some ⟨g, 0, none⟩) N cap 0 0 Tryd.underlying57
    generalize wcellsW ws = news at *
    replace hcells := Lib.hid hcells
    replace hone := Lib.hid hone
    replace hfl := Lib.hid hfl
    replace hN := Lib.hid hN
    clear h
    go_enter Tryd.func34, Tryd.ntmps34
    go_wp2_with (at_builtin; refine wpList_append_own _ rfl (.tmp 5) (.tmp 6) 57 rfl w.heap.size 64 i0 z 65 72 Tryd.underlying57 hi0 hz1 hs1 hby hz2 (by decide) _ _ _ rfl (World.ownsRow_made w #[] 0 (Nat.le_refl _) (Nat.zero_le _) (by simp)) ⟨g, 0, none⟩ N cap news rfl ?qc1 ?qc2 ?qc3 ?qc4 ?qc5 ?qc6 ?_)
    case qc1 => exact hfl.out
    case qc2 =>
      intro j u hj
      exact Lib.cell?_alloc_some _ (hcells.out j u hj)
    case qc3 => exact hone.out
    case qc4 => unfold maxLen; omega
    case qc5 => omega
    case qc6 => simp
    intro v' w1 hown hgrow hnil
    have hown := Lib.hid (show w1.ownsRow w.heap.size 64 65 v' N news by simpa using hown)
    have hgrow := Lib.hid hgrow
    clear hnil
    go_wp2_with fail
    go_ret
    exact ⟨_, rfl, hown.out, ((Below.refl _ w).alloc (Nat.le_refl _) _).grown hgrow.out (by simp) (by intro k hk; simp [Value.ownBlock] at hk; omega)⟩

set_option maxRecDepth 100000 in
set_option maxHeartbeats 2000000 in
theorem dcopy_any {base : Nat} {w : World} {B mb mn : Nat} {v : Value} {p : DP} (h : DM base w B mb mn v p) (hws : p.ws.length ≤ 100000) :
    Calls Tryd.prog 20 #[.pointer (some ⟨B, 0, none⟩)] w fun x w' => ∃ B' mb' v', x = .returned (.pointer (some ⟨B', 0, none⟩)) ∧ DM w.heap.size w' B' mb' mn v' p ∧ Below w.heap.size w w' := by
  obtain ⟨w1, hw1⟩ : ∃ w1, w1 = w.alloc (.cells (dcells p.n mb v p.armed p.l p.gone) 59) := ⟨_, rfl⟩
  have hG1 : Below w.heap.size w w1 := by rw [hw1]; exact (Below.refl _ _).alloc (Nat.le_refl _) _
  have hx1 : w1.heap[w.heap.size]? = some (.cells (dcells p.n mb v p.armed p.l p.gone) 59 (0, 0)) := by rw [hw1]; exact heap_alloc_new w _
  have hs1 : w1.heap.size = w.heap.size + 1 := by rw [hw1]; exact World.size_alloc ..
  have hBl := block_lt h.at_
  have hall : ∀ W, Below w.heap.size w1 W → DM base W B mb mn v p := fun W hW => h.below (hG1.trans hW)
  have e0 : w.cell? ⟨B, 0, none⟩ = some (.int .i64 p.n) := by rw [h.cell]; rfl
  have e1 : w.cell? ⟨B, 1, none⟩ = some (.map (some mb)) := by rw [h.cell]; rfl
  have e2 : w.cell? ⟨B, 2, none⟩ = some v := by rw [h.cell]; rfl
  have e3 : w.cell? ⟨B, 3, none⟩ = some (.bool p.armed) := by rw [h.cell]; rfl
  have e4 : w.cell? ⟨B, 4, none⟩ = some (.int .i64 p.l) := by rw [h.cell]; rfl
  have e5 : w.cell? ⟨B, 5, none⟩ = some (.bool p.gone) := by rw [h.cell]; rfl
  have hc1 : ∀ W, Below w.heap.size w1 W → W.cell? ⟨B, 1, none⟩ = some (.map (some mb)) := fun W hW => by rw [(hall W hW).cell]; rfl
  have hc2 : ∀ W, Below w.heap.size w1 W → W.cell? ⟨B, 2, none⟩ = some v := fun W hW => by rw [(hall W hW).cell]; rfl
  have hcm : ∀ W, Below w.heap.size w1 W → _ := fun W hW => mclone_any (hall W hW).map
  have hcs : ∀ W, Below w.heap.size w1 W → _ := fun W hW => cloneWt_any (hall W hW).row hws
  obtain ⟨av, cv, ev⟩ := h.form
  have hlens := h.lens
  subst ev
  have hd1 : Hid (Below w.heap.size w1 w1.drew) := Lib.hid ((Below.refl _ _).drew)
  have hxd : Hid (w1.drew.heap[w.heap.size]? = some (.cells (dcells p.n mb (.slice av p.ws.length cv) p.armed p.l p.gone) 59 (0, 0))) := Lib.hid hx1
  unfold dcells at hw1
  replace hw1 := Lib.hid hw1
  replace hG1 := Lib.hid hG1
  replace hcm := Lib.hid hcm
  replace hcs := Lib.hid hcs
  replace hs1 := Lib.hid hs1
  replace hlens := Lib.hid hlens
  clear h hall hx1
  have hform : Hid (∀ (b : Nat) (W : World) (v : Value), W.ownsRow b 64 65 v p.ws.length (wcellsW p.ws) → ∃ a n c, v = .slice a n c) := Lib.hid (fun b W v hv => by
    rcases hv.2 with ⟨e, _⟩ | ⟨g, cap, cur, e, _⟩
    · exact ⟨_, _, _, e⟩
    · exact ⟨_, _, _, e⟩)
  generalize hX : w.heap.size = X at *
  go_enter Tryd.func20, Tryd.ntmps20
  go_wp2_with fail
  rw [← hw1.out]
  refine wp_region_held_drew (S := (Below X w1)) (by kernel_rfl) hd1.out (fun hOn => ?_)
  generalize World.drew w1 = wd at *
  refine wpAnyH_take (i := 0) (v := ?_) (by simp only [List.getElem?_toArray, List.getElem?_cons_zero]; rfl) (by kernel_rfl) (by kernel_rfl) (by kernel_rfl) (by exact fun _ _ _ h => h) (Or.inl ⟨by rfl, ?_⟩) hOn ?_
  rotate_left
  focus (intro W hSW; go_simp; try with_reducible rfl)
  try simp only [Act.put, List.setIfInBounds_toArray, List.set_cons_zero, List.set_cons_succ]
  refine wpAnyH_take (i := 1) (v := ?_) (by simp only [List.getElem?_toArray, List.getElem?_cons_succ, List.getElem?_cons_zero]; rfl) (by kernel_rfl) (by kernel_rfl) (by kernel_rfl) (by exact fun _ _ _ h => h) (Or.inl ⟨by rfl, ?_⟩) hOn ?_
  rotate_left
  focus (intro W hSW; go_simp; try with_reducible rfl)
  try simp only [Act.put, List.setIfInBounds_toArray, List.set_cons_zero, List.set_cons_succ]
  refine wpAnyH_take (i := 2) (v := ?_) (by simp only [List.getElem?_toArray, List.getElem?_cons_succ, List.getElem?_cons_zero]; rfl) (by kernel_rfl) (by kernel_rfl) (by kernel_rfl) (by exact fun _ _ _ h => h) (Or.inl ⟨by rfl, ?_⟩) hOn ?_
  rotate_left
  focus (intro W hSW; go_simp; try with_reducible rfl)
  try simp only [Act.put, List.setIfInBounds_toArray, List.set_cons_zero, List.set_cons_succ]
  refine wpAnyH_take (i := 3) (v := ?_) (by simp only [List.getElem?_toArray, List.getElem?_cons_succ, List.getElem?_cons_zero]; rfl) (by kernel_rfl) (by kernel_rfl) (by kernel_rfl) (by exact fun _ _ _ h => h) (Or.inl ⟨by rfl, ?_⟩) hOn ?_
  rotate_left
  focus (intro W hSW; go_simp; try with_reducible rfl)
  try simp only [Act.put, List.setIfInBounds_toArray, List.set_cons_zero, List.set_cons_succ]
  refine wpAnyH_take (i := 5) (v := ?_) (by simp only [List.getElem?_toArray, List.getElem?_cons_succ, List.getElem?_cons_zero]; rfl) (by kernel_rfl) (by kernel_rfl) (by kernel_rfl) (by exact fun _ _ _ h => h) (Or.inl ⟨by rfl, ?_⟩) hOn ?_
  rotate_left
  focus (intro W hSW; go_simp; try with_reducible rfl)
  try simp only [Act.put, List.setIfInBounds_toArray, List.set_cons_zero, List.set_cons_succ]
  refine wpAnyH_take (i := 6) (v := ?_) (by simp only [List.getElem?_toArray, List.getElem?_cons_succ, List.getElem?_cons_zero]; rfl) (by kernel_rfl) (by kernel_rfl) (by kernel_rfl) (by exact fun _ _ _ h => h) (Or.inl ⟨by rfl, ?_⟩) hOn ?_
  rotate_left
  focus (intro W hSW; go_simp; try with_reducible rfl)
  try simp only [Act.put, List.setIfInBounds_toArray, List.set_cons_zero, List.set_cons_succ]
  refine wpAnyH_take (i := 7) (v := ?_) (by simp only [List.getElem?_toArray, List.getElem?_cons_succ, List.getElem?_cons_zero]; rfl) (by kernel_rfl) (by kernel_rfl) (by kernel_rfl) (by exact fun _ _ _ h => h) (Or.inl ⟨by rfl, ?_⟩) hOn ?_
  rotate_left
  focus (intro W hSW; go_simp; try with_reducible rfl)
  try simp only [Act.put, List.setIfInBounds_toArray, List.set_cons_zero, List.set_cons_succ]
  refine wpAnyH_take (i := 8) (v := ?_) (by simp only [List.getElem?_toArray, List.getElem?_cons_succ, List.getElem?_cons_zero]; rfl) (by kernel_rfl) (by kernel_rfl) (by kernel_rfl) (by exact fun _ _ _ h => h) (Or.inl ⟨by rfl, ?_⟩) hOn ?_
  rotate_left
  focus (intro W hSW; go_simp; try with_reducible rfl)
  try simp only [Act.put, List.setIfInBounds_toArray, List.set_cons_zero, List.set_cons_succ]
  refine wpAnyH_ready (rs := [4]) (by kernel_rfl) (by simp) ?_
  refine AllReadyH.cons (by simp only [List.getElem?_toArray, List.getElem?_cons_succ, List.getElem?_cons_zero]; rfl) (fun Kz hKz => ?_) AllReadyH.nil
  go_simp
  (with_reducible refine (hcm.out _ hOn).mono ?_)
  rintro e w3 ⟨rfl, hm3, hnew⟩
  have hlo3 := Lib.hid (show X + 1 ≤ wd.heap.size by have := hOn.size; have := hs1.out; omega)
  have hS := hOn.trans (hnew.mono (by have := hlo3.out; omega))
  have hx3 := Lib.hid ((hnew.block _ (block_lt hxd.out)).trans hxd.out)
  replace hm3 := Lib.hid hm3
  focus (go_wp2_with fail)
  refine hKz.out _ _ (by first | exact hS | exact Below.trans hOn (Below.mono hnew (Below.size hOn))) (fun hNext => ?_)
  clear hKz Kz hOn
  have hOn := hNext
  clear hNext
  try clear hnew
  try clear hS
  try simp only [Act.put, List.setIfInBounds_toArray, List.set_cons_zero, List.set_cons_succ]
  refine wpAnyH_ready (rs := [9]) (by kernel_rfl) (by simp) ?_
  refine AllReadyH.cons (by simp only [List.getElem?_toArray, List.getElem?_cons_succ, List.getElem?_cons_zero]; rfl) (fun Kz hKz => ?_) AllReadyH.nil
  go_simp
  (with_reducible refine (hcs.out _ hOn).mono ?_)
  rintro e w4 ⟨v4, rfl, ho4, hnew⟩
  have hlo4 := Lib.hid hm3.out.lt
  have hS := hOn.trans (hnew.mono (by have := hlo3.out; have := hlo4.out; omega))
  have hx4 := Lib.hid ((hnew.block _ (block_lt hx3.out)).trans hx3.out)
  have hm4 := Lib.hid (hm3.out.only (Only.ofBelow (D := fun _ => False) hnew) (fun h => h))
  obtain ⟨a4, n4, c4, hv4⟩ : ∃ a n c, v4 = .slice a n c := (hform.out _ _ _ ho4)
  subst hv4
  have k1 : w4.cell? ⟨X, 1, none⟩ = some (.map (some mb)) := (by rw [cell_of_block hx4.out]; rfl)
  have f1 : w4.frozen? ⟨X, 1, none⟩ = false := free_of_block hx4.out _
  replace ho4 := Lib.hid ho4
  focus (go_wp2_with fail)
  refine hKz.out _ _ (by first | exact hS | exact Below.trans hOn (Below.mono hnew (Below.size hOn))) (fun hNext => ?_)
  clear hKz Kz hOn
  have hOn := hNext
  clear hNext
  try clear hnew
  try clear hS
  try simp only [Act.put, List.setIfInBounds_toArray, List.set_cons_zero, List.set_cons_succ]
  refine wpAnyH_take (i := 10) (v := ?_) (by simp only [List.getElem?_toArray, List.getElem?_cons_succ, List.getElem?_cons_zero]; rfl) (by kernel_rfl) (by kernel_rfl) (by kernel_rfl) (by exact fun _ _ _ h => h) (Or.inl ⟨by rfl, ?_⟩) hOn ?_
  rotate_left
  focus (intro W hSW; go_simp; try with_reducible rfl)
  try simp only [Act.put, List.setIfInBounds_toArray, List.set_cons_zero, List.set_cons_succ]
  refine wpAnyH_ready (rs := [11]) (by kernel_rfl) (by simp) ?_
  refine AllReadyH.cons (by simp only [List.getElem?_toArray, List.getElem?_cons_succ, List.getElem?_cons_zero]; rfl) (fun Kz hKz => ?_) AllReadyH.nil
  go_simp
  have hU5 := Lib.hid ((Upd.refl hx4.out).setCell (j := 1) (.map (some wd.heap.size)))
  have k2 : (w4.setCell ⟨X, 1, none⟩ (.map (some wd.heap.size))).cell? ⟨X, 2, none⟩ = some (.slice av p.ws.length cv) := (by rw [cell_of_block hU5.out.here]; rfl)
  have f2 : (w4.setCell ⟨X, 1, none⟩ (.map (some wd.heap.size))).frozen? ⟨X, 2, none⟩ = false := free_of_block hU5.out.here _
  have hS := hOn.trans (hU5.out.below (Nat.le_refl X))
  refine hKz.out _ _ (by first | exact hS | exact Below.trans hOn (Below.mono hnew (Below.size hOn))) (fun hNext => ?_)
  clear hKz Kz hOn
  have hOn := hNext
  clear hNext
  try clear hnew
  try clear hS
  try simp only [Act.put]
  refine wpAnyH_take (i := 12) (v := ?_) (by simp only [List.getElem?_toArray, List.getElem?_cons_succ, List.getElem?_cons_zero]; rfl) (by kernel_rfl) (by kernel_rfl) (by kernel_rfl) (by exact fun _ _ _ h => h) (Or.inl ⟨by rfl, ?_⟩) hOn ?_
  rotate_left
  focus (intro W hSW; go_simp; try with_reducible rfl)
  try simp only [Act.put, List.setIfInBounds_toArray, List.set_cons_zero, List.set_cons_succ]
  refine wpAnyH_ready (rs := [13]) (by kernel_rfl) (by simp) ?_
  refine AllReadyH.cons (by simp only [List.getElem?_toArray, List.getElem?_cons_succ, List.getElem?_cons_zero]; rfl) (fun Kz hKz => ?_) AllReadyH.nil
  go_simp
  have hU6 := Lib.hid (hU5.out.setCell (j := 2) (.slice a4 n4 c4))
  have hS := hOn.setCell (p := ⟨X, 2, none⟩) (Nat.le_refl X) (.slice a4 n4 c4)
  refine hKz.out _ _ (by first | exact hS | exact Below.trans hOn (Below.mono hnew (Below.size hOn))) (fun hNext => ?_)
  clear hKz Kz hOn
  have hOn := hNext
  clear hNext
  try clear hnew
  try clear hS
  try simp only [Act.put]
  refine wpAnyH_done (by kernel_rfl) ?_ _
  all_goals (go_wp2_with fail)
  all_goals
    go_ret
    have hs := hs1.out
    have hl3 := hlo3.out
    have hl4 := hlo4.out
    have h4l : ∀ k, (Value.slice a4 n4 c4).ownBlock = some k → X + 1 < k := fun k hk => by
      have := (World.ownsRow.lt ho4.out k hk).1
      omega
    have hO6 : Only (fun k => k = X) w4 _ := Only.ofUpd hU6.out rfl
    refine ⟨X, wd.heap.size, .slice a4 n4 c4, rfl, ⟨hU6.out.here, hm4.out.only hO6 (by omega), ?_, by omega, fun k hk => ⟨by have := h4l k hk; omega, ?_⟩, by omega, by omega, hlens.out⟩, hG1.out.trans hOn⟩
    · exact owns_mono (hO6.owns ho4.out (fun k hk => by have := h4l k hk; omega)) (by omega)
    · have := (World.ownsRow.lt ho4.out k hk).1
      omega
end YtdgilgnaoifpcaaDoor
end Go.Proofs
