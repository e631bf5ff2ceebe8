/- Walks over disk: Write. -/
import Derived.Test.YtdgilgnaoifpcaaDoorAppW
import Derived.Test.YtdgilgnaoifpcaaDoorOnL
import Derived.Test.YtdgilgnaoifpcaaDoorOnL
namespace Go.Proofs.YtdgilgnaoifpcaaDoor
open Go.RowKit

/-- The cells of the writes that wait. -/
def wcellsW (ws : List (Int × List UInt8)) : List Value := ws.flatMap fun p => .int .i64 p.1 :: cB p.2
theorem rangeAt_argB {w : World} {b off cap : Nat} {bs : List UInt8} (h : ArgB w (some ⟨b, off, none⟩) cap bs) : w.rangeAt b off (cB bs) := by
  intro j v hv
  have hj : j < bs.length := by
    have := (List.getElem?_eq_some_iff.1 hv).1
    rwa [cB_length] at this
  obtain ⟨b', o', e, hc⟩ := h.row j hj
  cases e
  rw [hc, ← hv]
  simp [cB, hj]
theorem rangeAt_only {w w' : World} {D : Nat → Prop} {b off : Nat} {cs : List Value} (h : w.rangeAt b off cs) (hO : Only D w w') (hd : ¬ D b) : w'.rangeAt b off cs := fun j v hv => by
  have hc := h j v hv
  exact (World.cell?_of_block (w := w) (w' := w') (a := ⟨b, off + j, none⟩) (hO.block b (World.block_lt_of_cell? w _ hc) hd)).trans hc

set_option maxRecDepth 100000 in
set_option maxHeartbeats 4000000 in
theorem dwrite_yes (base B mb : Nat) (n i : Int) (h0 : 0 ≤ i) (h1 : i < n) (T : TypeId) (v : Value) (ws : List (Int × List UInt8)) (armed : Bool) (l : Int) (har : armed = true → l ≠ 0) (hl : -1000000 ≤ l ∧ l ≤ 9223372036854775807) (w : World) (hat : w.heap[B]? = some (.cells (dcells n mb v armed l false) T (0, 0)))
    (hb : base ≤ w.heap.size) (hown : w.ownsRow base 64 65 v ws.length (wcellsW ws)) (hvB : ∀ k, v.ownBlock = some k → k ≠ B) (hws : ws.length ≤ 1000000)
    (bb off cap : Nat) (bs : List UInt8) (hbs : bs.length = 64) (ha : ArgB w (some ⟨bb, off, none⟩) cap bs) (hbB : bb ≠ B) (hvb : ∀ k, v.ownBlock = some k → k ≠ bb) :
    Calls Tryd.prog 8 #[.pointer (some ⟨B, 0, none⟩), .int .i64 i, .slice (some ⟨bb, off, none⟩) 64 cap] w fun x w' => x = .returned .nilIface ∧
      ∃ v', w'.heap[B]? = some (.cells (dcells n mb v' armed (l - 1) false) T (0, 0)) ∧ w'.ownsRow base 64 65 v' (ws.length + 1) (wcellsW (ws ++ [(i, bs)])) ∧ Only (fun k => k = B ∨ v.ownBlock = some k) w w' ∧ (∀ k, v'.ownBlock = some k → v.ownBlock = some k ∨ w.heap.size ≤ k) := by
  have hBl := block_lt hat
  have hc : w.cell? ⟨B, 0, none⟩ = some (.int .i64 n) := by rw [cell_of_block hat]; rfl
  have c3 : w.cell? ⟨B, 3, none⟩ = some (.bool armed) := by rw [cell_of_block hat]; rfl
  have c4 : w.cell? ⟨B, 4, none⟩ = some (.int .i64 l) := by rw [cell_of_block hat]; rfl
  have c5 : w.cell? ⟨B, 5, none⟩ = some (.bool false) := by rw [cell_of_block hat]; rfl
  have hth := Lib.hid (dthere_yes B n i h0 h1 w hc)
  have hde := Lib.hid (ddeed_go B armed l har hl w c3 c4 c5 (free_of_block hat _))
  have harr : ∀ W, (Instr.arrayAt 62 (.slice (some ⟨bb, off, none⟩) 64 cap)).run Tryd.prog W = .ok (.pointer (some ⟨bb, off, none⟩)) W := fun W => by kernel_rfl
  obtain ⟨S, hSd⟩ : ∃ S, S = (cB bs).toArray := ⟨_, rfl⟩
  have hSs : S.size = 64 := by rw [hSd]; simp [cB_length, hbs]
  have hbuild := build_write i S hSs
  obtain ⟨R, hRd⟩ : ∃ R, R = #[Value.int .i64 i] ++ S := ⟨_, rfl⟩
  have hRs : R.size = 65 := by rw [hRd]; simp [hSs]
  rw [← hRd] at hbuild
  have hslice := slice_write R hRs
  have hraw := True.intro
  have hR1 : ∀ u ∈ R.toList, u.oneCell' = true := by
    rw [hRd, hSd]
    intro u hu
    simp only [Array.toList_append, List.mem_append, List.mem_singleton] at hu
    rcases hu with rfl | hu
    · rfl
    · exact cB_one _ u hu
  obtain ⟨w1, hw1⟩ : ∃ w1, w1 = w.setCell ⟨B, 4, none⟩ (.int .i64 (l - 1)) := ⟨_, rfl⟩
  have hU1 := (Upd.refl hat).setCell (j := 4) (.int .i64 (l - 1))
  rw [← hw1] at hU1
  have hO1 : Only (fun k => k = B) w w1 := Only.ofUpd hU1 rfl
  have hrg : w1.rangeAt bb off (cB bs) := rangeAt_only (rangeAt_argB ha) hO1 hbB
  have hown1 := hO1.owns hown hvB
  have hs1 := hO1.size
  have hat1 := hU1.here
  obtain ⟨va, vc, hv⟩ : ∃ a c, v = .slice a ws.length c := by
    rcases hown.2 with ⟨e1, h2⟩ | ⟨g, c, cur, e1, _⟩
    · exact ⟨none, 0, by rw [e1, h2]⟩
    · exact ⟨_, c, e1⟩
  have hu : Tryd.prog.underlying 62 = some (.array 64 5) := Tryd.underlying62
  have hsi : (Tryd.prog.info? 62).map (·.size) = some (cB bs).length := by rw [cB_length, hbs]; kernel_rfl
  have hc2 : w1.cell? ⟨B, 2, none⟩ = some (.slice va ws.length vc) := by rw [cell_of_block hat1, ← hv]; rfl
  have hxs : wcellsW (ws ++ [(i, bs)]) = wcellsW ws ++ R.toList := by rw [hRd, hSd]; simp [wcellsW]
  rw [hv] at hown1 hvb hvB
  replace hown1 := Lib.hid hown1
  replace hat1 := Lib.hid hat1
  replace hO1 := Lib.hid hO1
  replace hU1 := Lib.hid hU1
  replace hw1 := Lib.hid hw1
  replace hSd := Lib.hid hSd
  replace hRd := Lib.hid hRd
  replace hxs := Lib.hid hxs
  replace hvb := Lib.hid hvb
  replace hvB := Lib.hid hvB
  replace hv := Lib.hid hv
  replace hsi := Lib.hid hsi
  replace hR1 := Lib.hid hR1
  have hSd0 : Hid (w1.drew.rangeAt bb off (cB bs)) := hrg
  have hownd : Hid (w1.drew.ownsRow base 64 65 (.slice va ws.length vc) ws.length (wcellsW ws)) := hown1
  have hatd : Hid (w1.drew.heap[B]? = some (.cells ((dcells n mb v armed l false).setIfInBounds 4 (.int .i64 (l - 1))) T (0, 0))) := hat1
  have hsd : w1.heap.size ≤ w1.drew.heap.size := Nat.le_refl _
  have hcd : w1.drew.cell? ⟨B, 2, none⟩ = some (.slice va ws.length vc) := hc2
  have hgw : Hid (Only (fun k => k = B) w w1.drew) := Lib.hid (hO1.out.drew)
  replace hrg := Lib.hid hrg
  clear hown ha c3 c4 c5 hat
  go_enter Tryd.func8, Tryd.ntmps8
  go_wp2_with fail
  with_reducible refine hth.out.mono ?_
  rintro x w2 ⟨rfl, hq⟩
  obtain rfl := hq
  clear hth
  go_wp2_with fail
  with_reducible refine hde.out.mono ?_
  rintro x w2 ⟨rfl, hq⟩
  obtain rfl : w1 = w2 := hw1.out.trans hq.symm
  clear hq hde hc hw1
  go_wp2_with fail
  refine wp_region_held_drew (S := (fun W' : World => W'.rangeAt bb off (cB bs))) (by kernel_rfl) hSd0.out (fun hOn => ?_)
  generalize World.drew w1 = wd at *
  refine wpAnyH_take (i := 0) (v := ?_) (by simp only [List.getElem?_toArray, List.getElem?_cons_zero]; rfl) (by kernel_rfl) (by kernel_rfl) (by kernel_rfl) (by exact fun _ _ _ h => h) (Or.inl ⟨by rfl, ?_⟩) hOn ?_
  rotate_left
  focus (intro W hSW; go_simp; try with_reducible rfl)
  try simp only [Act.put, List.setIfInBounds_toArray, List.set_cons_zero, List.set_cons_succ]
  refine wpAnyH_take (i := 1) (v := ?_) (by simp only [List.getElem?_toArray, List.getElem?_cons_succ, List.getElem?_cons_zero]; rfl) (by kernel_rfl) (by kernel_rfl) (by kernel_rfl) (by exact fun _ _ _ h => h) (Or.inl ⟨by rfl, ?_⟩) hOn ?_
  rotate_left
  focus (intro W hSW; go_simp; try with_reducible rfl)
  try simp only [Act.put, List.setIfInBounds_toArray, List.set_cons_zero, List.set_cons_succ]
  refine wpAnyH_take (i := 2) (v := ?_) (by simp only [List.getElem?_toArray, List.getElem?_cons_succ, List.getElem?_cons_zero]; rfl) (by kernel_rfl) (by kernel_rfl) (by kernel_rfl) (by exact fun _ _ _ h => h) (Or.inl ⟨by rfl, ?_⟩) hOn ?_
  rotate_left
  focus (intro W hSW; go_simp; try with_reducible rfl)
  try simp only [Act.put, List.setIfInBounds_toArray, List.set_cons_zero, List.set_cons_succ]
  refine wpAnyH_take (i := 3) (v := ?_) (by simp only [List.getElem?_toArray, List.getElem?_cons_succ, List.getElem?_cons_zero]; rfl) (by kernel_rfl) (by kernel_rfl) (by kernel_rfl) (by exact fun _ _ _ h => h) (Or.inl ⟨by rfl, ?_⟩) hOn ?_
  rotate_left
  focus (intro W hSW; go_simp; try with_reducible rfl)
  try simp only [Act.put, List.setIfInBounds_toArray, List.set_cons_zero, List.set_cons_succ]
  refine wpAnyH_take (i := 5) (v := ?_) (by simp only [List.getElem?_toArray, List.getElem?_cons_succ, List.getElem?_cons_zero]; rfl) (by kernel_rfl) (by kernel_rfl) (by kernel_rfl) (by exact fun _ _ _ h => h) (Or.inl ⟨by rfl, ?_⟩) hOn ?_
  rotate_left
  focus (intro W hSW; go_simp; try with_reducible rfl)
  try simp only [Act.put, List.setIfInBounds_toArray, List.set_cons_zero, List.set_cons_succ]
  refine wpAnyH_take (i := 6) (v := ?_) (by simp only [List.getElem?_toArray, List.getElem?_cons_succ, List.getElem?_cons_zero]; rfl) (by kernel_rfl) (by kernel_rfl) (by kernel_rfl) (by exact fun _ _ _ h => h) (Or.inl ⟨by rfl, ?_⟩) hOn ?_
  rotate_left
  focus (intro W hSW; go_simp; try with_reducible rfl)
  try simp only [Act.put, List.setIfInBounds_toArray, List.set_cons_zero, List.set_cons_succ]
  refine wpAnyH_ready (rs := [4, 7]) (by kernel_rfl) (by simp) ?_
  refine AllReadyH.cons (by simp only [List.getElem?_toArray, List.getElem?_cons_succ, List.getElem?_cons_zero]; rfl) (fun Kz hKz => ?_) ?_
  go_simp
  focus (try go_wp2_with fail)
  refine hKz.out _ _ (by first | exact hOn | exact Grown.alloc hOn _ | exact Below.alloc hOn (Below.size hOn) _ | exact Grown.alloc (Grown.refl _) _) (fun hNext => ?_)
  clear hKz Kz hOn
  have hOn := hNext
  clear hNext
  try simp only [Act.put, List.setIfInBounds_toArray, List.set_cons_zero, List.set_cons_succ]
  refine wpAnyH_ready (rs := [7]) (by kernel_rfl) (by simp) ?_
  refine AllReadyH.cons (by simp only [List.getElem?_toArray, List.getElem?_cons_succ, List.getElem?_cons_zero]; rfl) (fun Kz hKz => ?_) AllReadyH.nil
  go_simp
  focus (try go_wp2_with fail)
  refine hKz.out _ _ (by first | exact hOn | exact Grown.alloc hOn _ | exact Below.alloc hOn (Below.size hOn) _ | exact Grown.alloc (Grown.refl _) _) (fun hNext => ?_)
  clear hKz Kz hOn
  have hOn := hNext
  clear hNext
  try simp only [Act.put, List.setIfInBounds_toArray, List.set_cons_zero, List.set_cons_succ]
  refine wpAnyH_ready (rs := [8]) (by kernel_rfl) (by simp) ?_
  refine AllReadyH.cons (by simp only [List.getElem?_toArray, List.getElem?_cons_succ, List.getElem?_cons_zero]; rfl) (fun Kz hKz => ?_) AllReadyH.nil
  rw [if_pos (by rfl)]
  (refine wp_load_mid 62 (.tmp 31) rfl bb off rfl (cB bs) _ hOn hu rfl hsi.out ?_)
  have hS := hOn
  rw [← hSd.out]
  refine hKz.out _ _ (by first | exact hS | exact Below.trans hOn (Below.mono hnew (Below.size hOn))) (fun hNext => ?_)
  clear hKz Kz hOn
  have hOn := hNext
  clear hNext
  try clear hnew
  try clear hS
  try simp only [Act.put]
  refine wpAnyH_ready (rs := [9]) (by kernel_rfl) (by simp) ?_
  refine AllReadyH.cons (by simp only [List.getElem?_toArray, List.getElem?_cons_succ, List.getElem?_cons_zero]; rfl) (fun Kz hKz => ?_) AllReadyH.nil
  rw [if_pos (by rfl)]
  (refine wpK_build _ (.tmp 29) (.tmp 32) rfl (.int .i64 i) (.agg S) rfl rfl _ hbuild ?_)
  have hS := hOn
  refine hKz.out _ _ (by first | exact hS | exact Below.trans hOn (Below.mono hnew (Below.size hOn))) (fun hNext => ?_)
  clear hKz Kz hOn
  have hOn := hNext
  clear hNext
  try clear hnew
  try clear hS
  try simp only [Act.put]
  refine wpAnyH_ready (rs := [10]) (by kernel_rfl) (by simp) ?_
  refine AllReadyH.cons (by simp only [List.getElem?_toArray, List.getElem?_cons_succ, List.getElem?_cons_zero]; rfl) (fun Kz hKz => ?_) AllReadyH.nil
  rw [if_pos (by rfl)]
  (refine wpK_buildSlice _ _ (.tmp 33) rfl (.agg R) rfl _ _ (hslice _) ?_)
  (with_reducible refine made_step (t := 64) ?_)
  intro w5 hx5 hnew
  have hS := rangeAt_only hOn (Only.ofBelow (D := fun _ => False) hnew) (fun h => h)
  have hown5 := Lib.hid ((Only.ofBelow (D := fun _ => False) hnew).owns hownd.out (fun _ _ h => h))
  have hat5 := Lib.hid ((hnew.block B (by omega)).trans hatd.out)
  have hs5 := hnew.size
  have hO5 := Lib.hid (hgw.out.trans (Only.ofBelow (D := fun k => k = B) hnew) (fun _ _ h => h))
  have hcd5 : w5.cell? ⟨B, 2, none⟩ = some (.slice va ws.length vc) := (hnew.cell (p := ⟨B, 2, none⟩) (by show B < _; omega)).trans hcd
  refine hKz.out _ _ (by first | exact hS | exact Below.trans hOn (Below.mono hnew (Below.size hOn))) (fun hNext => ?_)
  clear hKz Kz hOn
  have hOn := hNext
  clear hNext
  try clear hnew
  try clear hS
  try simp only [Act.put]
  refine wpAnyH_ready (rs := [11]) (by kernel_rfl) (by simp) ?_
  refine AllReadyH.cons (by simp only [List.getElem?_toArray, List.getElem?_cons_succ, List.getElem?_cons_zero]; rfl) (fun Kz hKz => ?_) AllReadyH.nil
  rw [if_pos (by rfl)]
  (refine wpK_appW (.tmp 28) (.tmp 34) rfl base _ ws.length (wcellsW ws) rfl hown5 _ R hRs hR1.out rfl hx5 hws (by omega) ?_)
  intro v6 w6 ho6 hg6 hk6
  have hk6 := Lib.hid hk6
  have hS := rangeAt_only hOn (Only.ofGrown (D := fun k => (Value.slice va ws.length vc).ownBlock = some k) hg6.out (fun k hk => hk)) (fun h => hvb.out bb h rfl)
  have hat6 := Lib.hid ((hg6.out.block B (by omega) (fun e => hvB.out B e.symm rfl)).trans hat5.out)
  have hO6 := Lib.hid ((hO5.out.mono (E := fun k => k = B ∨ (Value.slice va ws.length vc).ownBlock = some k) (fun _ _ h => .inl h)).trans (Only.ofGrown (D := fun k => (Value.slice va ws.length vc).ownBlock = some k) hg6.out (fun k hk => hk)) (fun _ _ h => .inr h))
  have hcd6 : w6.cell? ⟨B, 2, none⟩ = some (.slice va ws.length vc) := (by rw [cell_of_block hat6.out, ← hv.out]; rfl)
  have hf6 : w6.frozen? ⟨B, 2, none⟩ = false := free_of_block hat6.out _
  obtain ⟨g6, c6, hv6⟩ : ∃ g c, v6 = .slice (some ⟨g, 0, none⟩) (ws.length + 1) c := (by rcases ho6.out.2 with ⟨_, h2⟩ | ⟨g, c, cur, e1, _⟩ <;> first | omega | exact ⟨g, c, e1⟩)
  subst hv6
  refine hKz.out _ _ (by first | exact hS | exact Below.trans hOn (Below.mono hnew (Below.size hOn))) (fun hNext => ?_)
  clear hKz Kz hOn
  have hOn := hNext
  clear hNext
  try clear hnew
  try clear hS
  try simp only [Act.put]
  refine wpAnyH_take (i := 12) (v := ?_) (by simp only [List.getElem?_toArray, List.getElem?_cons_succ, List.getElem?_cons_zero]; rfl) (by kernel_rfl) (by kernel_rfl) (by kernel_rfl) (by exact fun _ _ _ h => h) (Or.inl ⟨by rfl, ?_⟩) hOn ?_
  rotate_left
  focus (intro W hSW; go_simp; try with_reducible rfl)
  try simp only [Act.put, List.setIfInBounds_toArray, List.set_cons_zero, List.set_cons_succ]
  refine wpAnyH_take (i := 13) (v := ?_) (by simp only [List.getElem?_toArray, List.getElem?_cons_succ, List.getElem?_cons_zero]; rfl) (by kernel_rfl) (by kernel_rfl) (by kernel_rfl) (by exact fun _ _ _ h => h) (Or.inl ⟨by rfl, ?_⟩) hOn ?_
  rotate_left
  focus (intro W hSW; go_simp; try with_reducible rfl)
  try simp only [Act.put, List.setIfInBounds_toArray, List.set_cons_zero, List.set_cons_succ]
  refine wpAnyH_ready (rs := [14]) (by kernel_rfl) (by simp) ?_
  refine AllReadyH.cons (by simp only [List.getElem?_toArray, List.getElem?_cons_succ, List.getElem?_cons_zero]; rfl) (fun Kz hKz => ?_) AllReadyH.nil
  go_simp
  have hU7 := (Upd.refl hat6.out).setCell (j := 2) (.slice (some ⟨g6, 0, none⟩) (ws.length + 1) c6)
  have hS := rangeAt_only hOn (Only.ofUpd hU7 rfl : Only (fun k => k = B) _ _) hbB
  replace hU7 := Lib.hid hU7
  refine hKz.out _ _ (by first | exact hS | exact Below.trans hOn (Below.mono hnew (Below.size hOn))) (fun hNext => ?_)
  clear hKz Kz hOn
  have hOn := hNext
  clear hNext
  try clear hnew
  try clear hS
  try simp only [Act.put]
  refine wpAnyH_done (by kernel_rfl) ?_ _
  rotate_left
  refine AllReadyH.cons (by simp only [List.getElem?_toArray, List.getElem?_cons_succ, List.getElem?_cons_zero]; rfl) (fun Kz hKz => ?_) AllReadyH.nil
  go_simp
  focus (try go_wp2_with fail)
  refine hKz.out _ _ (by first | exact hOn | exact Grown.alloc hOn _ | exact Below.alloc hOn (Below.size hOn) _ | exact Grown.alloc (Grown.refl _) _) (fun hNext => ?_)
  clear hKz Kz hOn
  have hOn := hNext
  clear hNext
  try simp only [Act.put, List.setIfInBounds_toArray, List.set_cons_zero, List.set_cons_succ]
  refine wpAnyH_ready (rs := [4, 8]) (by kernel_rfl) (by simp) ?_
  refine AllReadyH.cons (by simp only [List.getElem?_toArray, List.getElem?_cons_succ, List.getElem?_cons_zero]; rfl) (fun Kz hKz => ?_) ?_
  go_simp
  focus (try go_wp2_with fail)
  refine hKz.out _ _ (by first | exact hOn | exact Grown.alloc hOn _ | exact Below.alloc hOn (Below.size hOn) _ | exact Grown.alloc (Grown.refl _) _) (fun hNext => ?_)
  clear hKz Kz hOn
  have hOn := hNext
  clear hNext
  try simp only [Act.put, List.setIfInBounds_toArray, List.set_cons_zero, List.set_cons_succ]
  refine wpAnyH_ready (rs := [8]) (by kernel_rfl) (by simp) ?_
  refine AllReadyH.cons (by simp only [List.getElem?_toArray, List.getElem?_cons_succ, List.getElem?_cons_zero]; rfl) (fun Kz hKz => ?_) AllReadyH.nil
  rw [if_pos (by rfl)]
  (refine wp_load_mid 62 (.tmp 31) rfl bb off rfl (cB bs) _ hOn hu rfl hsi.out ?_)
  have hS := hOn
  rw [← hSd.out]
  refine hKz.out _ _ (by first | exact hS | exact Below.trans hOn (Below.mono hnew (Below.size hOn))) (fun hNext => ?_)
  clear hKz Kz hOn
  have hOn := hNext
  clear hNext
  try clear hnew
  try clear hS
  try simp only [Act.put]
  refine wpAnyH_ready (rs := [9]) (by kernel_rfl) (by simp) ?_
  refine AllReadyH.cons (by simp only [List.getElem?_toArray, List.getElem?_cons_succ, List.getElem?_cons_zero]; rfl) (fun Kz hKz => ?_) AllReadyH.nil
  rw [if_pos (by rfl)]
  (refine wpK_build _ (.tmp 29) (.tmp 32) rfl (.int .i64 i) (.agg S) rfl rfl _ hbuild ?_)
  have hS := hOn
  refine hKz.out _ _ (by first | exact hS | exact Below.trans hOn (Below.mono hnew (Below.size hOn))) (fun hNext => ?_)
  clear hKz Kz hOn
  have hOn := hNext
  clear hNext
  try clear hnew
  try clear hS
  try simp only [Act.put]
  refine wpAnyH_ready (rs := [10]) (by kernel_rfl) (by simp) ?_
  refine AllReadyH.cons (by simp only [List.getElem?_toArray, List.getElem?_cons_succ, List.getElem?_cons_zero]; rfl) (fun Kz hKz => ?_) AllReadyH.nil
  rw [if_pos (by rfl)]
  (refine wpK_buildSlice _ _ (.tmp 33) rfl (.agg R) rfl _ _ (hslice _) ?_)
  (with_reducible refine made_step (t := 64) ?_)
  intro w5 hx5 hnew
  have hS := rangeAt_only hOn (Only.ofBelow (D := fun _ => False) hnew) (fun h => h)
  have hown5 := Lib.hid ((Only.ofBelow (D := fun _ => False) hnew).owns hownd.out (fun _ _ h => h))
  have hat5 := Lib.hid ((hnew.block B (by omega)).trans hatd.out)
  have hs5 := hnew.size
  have hO5 := Lib.hid (hgw.out.trans (Only.ofBelow (D := fun k => k = B) hnew) (fun _ _ h => h))
  have hcd5 : w5.cell? ⟨B, 2, none⟩ = some (.slice va ws.length vc) := (hnew.cell (p := ⟨B, 2, none⟩) (by show B < _; omega)).trans hcd
  refine hKz.out _ _ (by first | exact hS | exact Below.trans hOn (Below.mono hnew (Below.size hOn))) (fun hNext => ?_)
  clear hKz Kz hOn
  have hOn := hNext
  clear hNext
  try clear hnew
  try clear hS
  try simp only [Act.put]
  refine wpAnyH_ready (rs := [11]) (by kernel_rfl) (by simp) ?_
  refine AllReadyH.cons (by simp only [List.getElem?_toArray, List.getElem?_cons_succ, List.getElem?_cons_zero]; rfl) (fun Kz hKz => ?_) AllReadyH.nil
  rw [if_pos (by rfl)]
  (refine wpK_appW (.tmp 28) (.tmp 34) rfl base _ ws.length (wcellsW ws) rfl hown5 _ R hRs hR1.out rfl hx5 hws (by omega) ?_)
  intro v6 w6 ho6 hg6 hk6
  have hk6 := Lib.hid hk6
  have hS := rangeAt_only hOn (Only.ofGrown (D := fun k => (Value.slice va ws.length vc).ownBlock = some k) hg6.out (fun k hk => hk)) (fun h => hvb.out bb h rfl)
  have hat6 := Lib.hid ((hg6.out.block B (by omega) (fun e => hvB.out B e.symm rfl)).trans hat5.out)
  have hO6 := Lib.hid ((hO5.out.mono (E := fun k => k = B ∨ (Value.slice va ws.length vc).ownBlock = some k) (fun _ _ h => .inl h)).trans (Only.ofGrown (D := fun k => (Value.slice va ws.length vc).ownBlock = some k) hg6.out (fun k hk => hk)) (fun _ _ h => .inr h))
  have hcd6 : w6.cell? ⟨B, 2, none⟩ = some (.slice va ws.length vc) := (by rw [cell_of_block hat6.out, ← hv.out]; rfl)
  have hf6 : w6.frozen? ⟨B, 2, none⟩ = false := free_of_block hat6.out _
  obtain ⟨g6, c6, hv6⟩ : ∃ g c, v6 = .slice (some ⟨g, 0, none⟩) (ws.length + 1) c := (by rcases ho6.out.2 with ⟨_, h2⟩ | ⟨g, c, cur, e1, _⟩ <;> first | omega | exact ⟨g, c, e1⟩)
  subst hv6
  refine hKz.out _ _ (by first | exact hS | exact Below.trans hOn (Below.mono hnew (Below.size hOn))) (fun hNext => ?_)
  clear hKz Kz hOn
  have hOn := hNext
  clear hNext
  try clear hnew
  try clear hS
  try simp only [Act.put]
  refine wpAnyH_take (i := 12) (v := ?_) (by simp only [List.getElem?_toArray, List.getElem?_cons_succ, List.getElem?_cons_zero]; rfl) (by kernel_rfl) (by kernel_rfl) (by kernel_rfl) (by exact fun _ _ _ h => h) (Or.inl ⟨by rfl, ?_⟩) hOn ?_
  rotate_left
  focus (intro W hSW; go_simp; try with_reducible rfl)
  try simp only [Act.put, List.setIfInBounds_toArray, List.set_cons_zero, List.set_cons_succ]
  refine wpAnyH_take (i := 13) (v := ?_) (by simp only [List.getElem?_toArray, List.getElem?_cons_succ, List.getElem?_cons_zero]; rfl) (by kernel_rfl) (by kernel_rfl) (by kernel_rfl) (by exact fun _ _ _ h => h) (Or.inl ⟨by rfl, ?_⟩) hOn ?_
  rotate_left
  focus (intro W hSW; go_simp; try with_reducible rfl)
  try simp only [Act.put, List.setIfInBounds_toArray, List.set_cons_zero, List.set_cons_succ]
  refine wpAnyH_ready (rs := [14]) (by kernel_rfl) (by simp) ?_
  refine AllReadyH.cons (by simp only [List.getElem?_toArray, List.getElem?_cons_succ, List.getElem?_cons_zero]; rfl) (fun Kz hKz => ?_) AllReadyH.nil
  go_simp
  have hU7 := (Upd.refl hat6.out).setCell (j := 2) (.slice (some ⟨g6, 0, none⟩) (ws.length + 1) c6)
  have hS := rangeAt_only hOn (Only.ofUpd hU7 rfl : Only (fun k => k = B) _ _) hbB
  replace hU7 := Lib.hid hU7
  refine hKz.out _ _ (by first | exact hS | exact Below.trans hOn (Below.mono hnew (Below.size hOn))) (fun hNext => ?_)
  clear hKz Kz hOn
  have hOn := hNext
  clear hNext
  try clear hnew
  try clear hS
  try simp only [Act.put]
  refine wpAnyH_done (by kernel_rfl) ?_ _
  rotate_left
  refine AllReadyH.cons (by simp only [List.getElem?_toArray, List.getElem?_cons_succ, List.getElem?_cons_zero]; rfl) (fun Kz hKz => ?_) AllReadyH.nil
  rw [if_pos (by rfl)]
  (refine wp_load_mid 62 (.tmp 31) rfl bb off rfl (cB bs) _ hOn hu rfl hsi.out ?_)
  have hS := hOn
  rw [← hSd.out]
  refine hKz.out _ _ (by first | exact hS | exact Below.trans hOn (Below.mono hnew (Below.size hOn))) (fun hNext => ?_)
  clear hKz Kz hOn
  have hOn := hNext
  clear hNext
  try clear hnew
  try clear hS
  try simp only [Act.put]
  refine wpAnyH_ready (rs := [4, 9]) (by kernel_rfl) (by simp) ?_
  refine AllReadyH.cons (by simp only [List.getElem?_toArray, List.getElem?_cons_succ, List.getElem?_cons_zero]; rfl) (fun Kz hKz => ?_) ?_
  go_simp
  focus (try go_wp2_with fail)
  refine hKz.out _ _ (by first | exact hOn | exact Grown.alloc hOn _ | exact Below.alloc hOn (Below.size hOn) _ | exact Grown.alloc (Grown.refl _) _) (fun hNext => ?_)
  clear hKz Kz hOn
  have hOn := hNext
  clear hNext
  try simp only [Act.put, List.setIfInBounds_toArray, List.set_cons_zero, List.set_cons_succ]
  refine wpAnyH_ready (rs := [9]) (by kernel_rfl) (by simp) ?_
  refine AllReadyH.cons (by simp only [List.getElem?_toArray, List.getElem?_cons_succ, List.getElem?_cons_zero]; rfl) (fun Kz hKz => ?_) AllReadyH.nil
  rw [if_pos (by rfl)]
  (refine wpK_build _ (.tmp 29) (.tmp 32) rfl (.int .i64 i) (.agg S) rfl rfl _ hbuild ?_)
  have hS := hOn
  refine hKz.out _ _ (by first | exact hS | exact Below.trans hOn (Below.mono hnew (Below.size hOn))) (fun hNext => ?_)
  clear hKz Kz hOn
  have hOn := hNext
  clear hNext
  try clear hnew
  try clear hS
  try simp only [Act.put]
  refine wpAnyH_ready (rs := [10]) (by kernel_rfl) (by simp) ?_
  refine AllReadyH.cons (by simp only [List.getElem?_toArray, List.getElem?_cons_succ, List.getElem?_cons_zero]; rfl) (fun Kz hKz => ?_) AllReadyH.nil
  rw [if_pos (by rfl)]
  (refine wpK_buildSlice _ _ (.tmp 33) rfl (.agg R) rfl _ _ (hslice _) ?_)
  (with_reducible refine made_step (t := 64) ?_)
  intro w5 hx5 hnew
  have hS := rangeAt_only hOn (Only.ofBelow (D := fun _ => False) hnew) (fun h => h)
  have hown5 := Lib.hid ((Only.ofBelow (D := fun _ => False) hnew).owns hownd.out (fun _ _ h => h))
  have hat5 := Lib.hid ((hnew.block B (by omega)).trans hatd.out)
  have hs5 := hnew.size
  have hO5 := Lib.hid (hgw.out.trans (Only.ofBelow (D := fun k => k = B) hnew) (fun _ _ h => h))
  have hcd5 : w5.cell? ⟨B, 2, none⟩ = some (.slice va ws.length vc) := (hnew.cell (p := ⟨B, 2, none⟩) (by show B < _; omega)).trans hcd
  refine hKz.out _ _ (by first | exact hS | exact Below.trans hOn (Below.mono hnew (Below.size hOn))) (fun hNext => ?_)
  clear hKz Kz hOn
  have hOn := hNext
  clear hNext
  try clear hnew
  try clear hS
  try simp only [Act.put]
  refine wpAnyH_ready (rs := [11]) (by kernel_rfl) (by simp) ?_
  refine AllReadyH.cons (by simp only [List.getElem?_toArray, List.getElem?_cons_succ, List.getElem?_cons_zero]; rfl) (fun Kz hKz => ?_) AllReadyH.nil
  rw [if_pos (by rfl)]
  (refine wpK_appW (.tmp 28) (.tmp 34) rfl base _ ws.length (wcellsW ws) rfl hown5 _ R hRs hR1.out rfl hx5 hws (by omega) ?_)
  intro v6 w6 ho6 hg6 hk6
  have hk6 := Lib.hid hk6
  have hS := rangeAt_only hOn (Only.ofGrown (D := fun k => (Value.slice va ws.length vc).ownBlock = some k) hg6.out (fun k hk => hk)) (fun h => hvb.out bb h rfl)
  have hat6 := Lib.hid ((hg6.out.block B (by omega) (fun e => hvB.out B e.symm rfl)).trans hat5.out)
  have hO6 := Lib.hid ((hO5.out.mono (E := fun k => k = B ∨ (Value.slice va ws.length vc).ownBlock = some k) (fun _ _ h => .inl h)).trans (Only.ofGrown (D := fun k => (Value.slice va ws.length vc).ownBlock = some k) hg6.out (fun k hk => hk)) (fun _ _ h => .inr h))
  have hcd6 : w6.cell? ⟨B, 2, none⟩ = some (.slice va ws.length vc) := (by rw [cell_of_block hat6.out, ← hv.out]; rfl)
  have hf6 : w6.frozen? ⟨B, 2, none⟩ = false := free_of_block hat6.out _
  obtain ⟨g6, c6, hv6⟩ : ∃ g c, v6 = .slice (some ⟨g, 0, none⟩) (ws.length + 1) c := (by rcases ho6.out.2 with ⟨_, h2⟩ | ⟨g, c, cur, e1, _⟩ <;> first | omega | exact ⟨g, c, e1⟩)
  subst hv6
  refine hKz.out _ _ (by first | exact hS | exact Below.trans hOn (Below.mono hnew (Below.size hOn))) (fun hNext => ?_)
  clear hKz Kz hOn
  have hOn := hNext
  clear hNext
  try clear hnew
  try clear hS
  try simp only [Act.put]
  refine wpAnyH_take (i := 12) (v := ?_) (by simp only [List.getElem?_toArray, List.getElem?_cons_succ, List.getElem?_cons_zero]; rfl) (by kernel_rfl) (by kernel_rfl) (by kernel_rfl) (by exact fun _ _ _ h => h) (Or.inl ⟨by rfl, ?_⟩) hOn ?_
  rotate_left
  focus (intro W hSW; go_simp; try with_reducible rfl)
  try simp only [Act.put, List.setIfInBounds_toArray, List.set_cons_zero, List.set_cons_succ]
  refine wpAnyH_take (i := 13) (v := ?_) (by simp only [List.getElem?_toArray, List.getElem?_cons_succ, List.getElem?_cons_zero]; rfl) (by kernel_rfl) (by kernel_rfl) (by kernel_rfl) (by exact fun _ _ _ h => h) (Or.inl ⟨by rfl, ?_⟩) hOn ?_
  rotate_left
  focus (intro W hSW; go_simp; try with_reducible rfl)
  try simp only [Act.put, List.setIfInBounds_toArray, List.set_cons_zero, List.set_cons_succ]
  refine wpAnyH_ready (rs := [14]) (by kernel_rfl) (by simp) ?_
  refine AllReadyH.cons (by simp only [List.getElem?_toArray, List.getElem?_cons_succ, List.getElem?_cons_zero]; rfl) (fun Kz hKz => ?_) AllReadyH.nil
  go_simp
  have hU7 := (Upd.refl hat6.out).setCell (j := 2) (.slice (some ⟨g6, 0, none⟩) (ws.length + 1) c6)
  have hS := rangeAt_only hOn (Only.ofUpd hU7 rfl : Only (fun k => k = B) _ _) hbB
  replace hU7 := Lib.hid hU7
  refine hKz.out _ _ (by first | exact hS | exact Below.trans hOn (Below.mono hnew (Below.size hOn))) (fun hNext => ?_)
  clear hKz Kz hOn
  have hOn := hNext
  clear hNext
  try clear hnew
  try clear hS
  try simp only [Act.put]
  refine wpAnyH_done (by kernel_rfl) ?_ _
  rotate_left
  refine AllReadyH.cons (by simp only [List.getElem?_toArray, List.getElem?_cons_succ, List.getElem?_cons_zero]; rfl) (fun Kz hKz => ?_) AllReadyH.nil
  rw [if_pos (by rfl)]
  (refine wpK_build _ (.tmp 29) (.tmp 32) rfl (.int .i64 i) (.agg S) rfl rfl _ hbuild ?_)
  have hS := hOn
  refine hKz.out _ _ (by first | exact hS | exact Below.trans hOn (Below.mono hnew (Below.size hOn))) (fun hNext => ?_)
  clear hKz Kz hOn
  have hOn := hNext
  clear hNext
  try clear hnew
  try clear hS
  try simp only [Act.put]
  refine wpAnyH_ready (rs := [4, 10]) (by kernel_rfl) (by simp) ?_
  refine AllReadyH.cons (by simp only [List.getElem?_toArray, List.getElem?_cons_succ, List.getElem?_cons_zero]; rfl) (fun Kz hKz => ?_) ?_
  go_simp
  focus (try go_wp2_with fail)
  refine hKz.out _ _ (by first | exact hOn | exact Grown.alloc hOn _ | exact Below.alloc hOn (Below.size hOn) _ | exact Grown.alloc (Grown.refl _) _) (fun hNext => ?_)
  clear hKz Kz hOn
  have hOn := hNext
  clear hNext
  try simp only [Act.put, List.setIfInBounds_toArray, List.set_cons_zero, List.set_cons_succ]
  refine wpAnyH_ready (rs := [10]) (by kernel_rfl) (by simp) ?_
  refine AllReadyH.cons (by simp only [List.getElem?_toArray, List.getElem?_cons_succ, List.getElem?_cons_zero]; rfl) (fun Kz hKz => ?_) AllReadyH.nil
  rw [if_pos (by rfl)]
  (refine wpK_buildSlice _ _ (.tmp 33) rfl (.agg R) rfl _ _ (hslice _) ?_)
  (with_reducible refine made_step (t := 64) ?_)
  intro w5 hx5 hnew
  have hS := rangeAt_only hOn (Only.ofBelow (D := fun _ => False) hnew) (fun h => h)
  have hown5 := Lib.hid ((Only.ofBelow (D := fun _ => False) hnew).owns hownd.out (fun _ _ h => h))
  have hat5 := Lib.hid ((hnew.block B (by omega)).trans hatd.out)
  have hs5 := hnew.size
  have hO5 := Lib.hid (hgw.out.trans (Only.ofBelow (D := fun k => k = B) hnew) (fun _ _ h => h))
  have hcd5 : w5.cell? ⟨B, 2, none⟩ = some (.slice va ws.length vc) := (hnew.cell (p := ⟨B, 2, none⟩) (by show B < _; omega)).trans hcd
  refine hKz.out _ _ (by first | exact hS | exact Below.trans hOn (Below.mono hnew (Below.size hOn))) (fun hNext => ?_)
  clear hKz Kz hOn
  have hOn := hNext
  clear hNext
  try clear hnew
  try clear hS
  try simp only [Act.put]
  refine wpAnyH_ready (rs := [11]) (by kernel_rfl) (by simp) ?_
  refine AllReadyH.cons (by simp only [List.getElem?_toArray, List.getElem?_cons_succ, List.getElem?_cons_zero]; rfl) (fun Kz hKz => ?_) AllReadyH.nil
  rw [if_pos (by rfl)]
  (refine wpK_appW (.tmp 28) (.tmp 34) rfl base _ ws.length (wcellsW ws) rfl hown5 _ R hRs hR1.out rfl hx5 hws (by omega) ?_)
  intro v6 w6 ho6 hg6 hk6
  have hk6 := Lib.hid hk6
  have hS := rangeAt_only hOn (Only.ofGrown (D := fun k => (Value.slice va ws.length vc).ownBlock = some k) hg6.out (fun k hk => hk)) (fun h => hvb.out bb h rfl)
  have hat6 := Lib.hid ((hg6.out.block B (by omega) (fun e => hvB.out B e.symm rfl)).trans hat5.out)
  have hO6 := Lib.hid ((hO5.out.mono (E := fun k => k = B ∨ (Value.slice va ws.length vc).ownBlock = some k) (fun _ _ h => .inl h)).trans (Only.ofGrown (D := fun k => (Value.slice va ws.length vc).ownBlock = some k) hg6.out (fun k hk => hk)) (fun _ _ h => .inr h))
  have hcd6 : w6.cell? ⟨B, 2, none⟩ = some (.slice va ws.length vc) := (by rw [cell_of_block hat6.out, ← hv.out]; rfl)
  have hf6 : w6.frozen? ⟨B, 2, none⟩ = false := free_of_block hat6.out _
  obtain ⟨g6, c6, hv6⟩ : ∃ g c, v6 = .slice (some ⟨g, 0, none⟩) (ws.length + 1) c := (by rcases ho6.out.2 with ⟨_, h2⟩ | ⟨g, c, cur, e1, _⟩ <;> first | omega | exact ⟨g, c, e1⟩)
  subst hv6
  refine hKz.out _ _ (by first | exact hS | exact Below.trans hOn (Below.mono hnew (Below.size hOn))) (fun hNext => ?_)
  clear hKz Kz hOn
  have hOn := hNext
  clear hNext
  try clear hnew
  try clear hS
  try simp only [Act.put]
  refine wpAnyH_take (i := 12) (v := ?_) (by simp only [List.getElem?_toArray, List.getElem?_cons_succ, List.getElem?_cons_zero]; rfl) (by kernel_rfl) (by kernel_rfl) (by kernel_rfl) (by exact fun _ _ _ h => h) (Or.inl ⟨by rfl, ?_⟩) hOn ?_
  rotate_left
  focus (intro W hSW; go_simp; try with_reducible rfl)
  try simp only [Act.put, List.setIfInBounds_toArray, List.set_cons_zero, List.set_cons_succ]
  refine wpAnyH_take (i := 13) (v := ?_) (by simp only [List.getElem?_toArray, List.getElem?_cons_succ, List.getElem?_cons_zero]; rfl) (by kernel_rfl) (by kernel_rfl) (by kernel_rfl) (by exact fun _ _ _ h => h) (Or.inl ⟨by rfl, ?_⟩) hOn ?_
  rotate_left
  focus (intro W hSW; go_simp; try with_reducible rfl)
  try simp only [Act.put, List.setIfInBounds_toArray, List.set_cons_zero, List.set_cons_succ]
  refine wpAnyH_ready (rs := [14]) (by kernel_rfl) (by simp) ?_
  refine AllReadyH.cons (by simp only [List.getElem?_toArray, List.getElem?_cons_succ, List.getElem?_cons_zero]; rfl) (fun Kz hKz => ?_) AllReadyH.nil
  go_simp
  have hU7 := (Upd.refl hat6.out).setCell (j := 2) (.slice (some ⟨g6, 0, none⟩) (ws.length + 1) c6)
  have hS := rangeAt_only hOn (Only.ofUpd hU7 rfl : Only (fun k => k = B) _ _) hbB
  replace hU7 := Lib.hid hU7
  refine hKz.out _ _ (by first | exact hS | exact Below.trans hOn (Below.mono hnew (Below.size hOn))) (fun hNext => ?_)
  clear hKz Kz hOn
  have hOn := hNext
  clear hNext
  try clear hnew
  try clear hS
  try simp only [Act.put]
  refine wpAnyH_done (by kernel_rfl) ?_ _
  rotate_left
  refine AllReadyH.cons (by simp only [List.getElem?_toArray, List.getElem?_cons_succ, List.getElem?_cons_zero]; rfl) (fun Kz hKz => ?_) AllReadyH.nil
  rw [if_pos (by rfl)]
  (refine wpK_buildSlice _ _ (.tmp 33) rfl (.agg R) rfl _ _ (hslice _) ?_)
  (with_reducible refine made_step (t := 64) ?_)
  intro w5 hx5 hnew
  have hS := rangeAt_only hOn (Only.ofBelow (D := fun _ => False) hnew) (fun h => h)
  have hown5 := Lib.hid ((Only.ofBelow (D := fun _ => False) hnew).owns hownd.out (fun _ _ h => h))
  have hat5 := Lib.hid ((hnew.block B (by omega)).trans hatd.out)
  have hs5 := hnew.size
  have hO5 := Lib.hid (hgw.out.trans (Only.ofBelow (D := fun k => k = B) hnew) (fun _ _ h => h))
  have hcd5 : w5.cell? ⟨B, 2, none⟩ = some (.slice va ws.length vc) := (hnew.cell (p := ⟨B, 2, none⟩) (by show B < _; omega)).trans hcd
  refine hKz.out _ _ (by first | exact hS | exact Below.trans hOn (Below.mono hnew (Below.size hOn))) (fun hNext => ?_)
  clear hKz Kz hOn
  have hOn := hNext
  clear hNext
  try clear hnew
  try clear hS
  try simp only [Act.put]
  refine wpAnyH_ready (rs := [4]) (by kernel_rfl) (by simp) ?_
  refine AllReadyH.cons (by simp only [List.getElem?_toArray, List.getElem?_cons_succ, List.getElem?_cons_zero]; rfl) (fun Kz hKz => ?_) AllReadyH.nil
  go_simp
  focus (try go_wp2_with fail)
  refine hKz.out _ _ (by first | exact hOn | exact Grown.alloc hOn _ | exact Below.alloc hOn (Below.size hOn) _ | exact Grown.alloc (Grown.refl _) _) (fun hNext => ?_)
  clear hKz Kz hOn
  have hOn := hNext
  clear hNext
  try simp only [Act.put, List.setIfInBounds_toArray, List.set_cons_zero, List.set_cons_succ]
  refine wpAnyH_ready (rs := [11]) (by kernel_rfl) (by simp) ?_
  refine AllReadyH.cons (by simp only [List.getElem?_toArray, List.getElem?_cons_succ, List.getElem?_cons_zero]; rfl) (fun Kz hKz => ?_) AllReadyH.nil
  rw [if_pos (by rfl)]
  (refine wpK_appW (.tmp 28) (.tmp 34) rfl base _ ws.length (wcellsW ws) rfl hown5 _ R hRs hR1.out rfl hx5 hws (by omega) ?_)
  intro v6 w6 ho6 hg6 hk6
  have hk6 := Lib.hid hk6
  have hS := rangeAt_only hOn (Only.ofGrown (D := fun k => (Value.slice va ws.length vc).ownBlock = some k) hg6.out (fun k hk => hk)) (fun h => hvb.out bb h rfl)
  have hat6 := Lib.hid ((hg6.out.block B (by omega) (fun e => hvB.out B e.symm rfl)).trans hat5.out)
  have hO6 := Lib.hid ((hO5.out.mono (E := fun k => k = B ∨ (Value.slice va ws.length vc).ownBlock = some k) (fun _ _ h => .inl h)).trans (Only.ofGrown (D := fun k => (Value.slice va ws.length vc).ownBlock = some k) hg6.out (fun k hk => hk)) (fun _ _ h => .inr h))
  have hcd6 : w6.cell? ⟨B, 2, none⟩ = some (.slice va ws.length vc) := (by rw [cell_of_block hat6.out, ← hv.out]; rfl)
  have hf6 : w6.frozen? ⟨B, 2, none⟩ = false := free_of_block hat6.out _
  obtain ⟨g6, c6, hv6⟩ : ∃ g c, v6 = .slice (some ⟨g, 0, none⟩) (ws.length + 1) c := (by rcases ho6.out.2 with ⟨_, h2⟩ | ⟨g, c, cur, e1, _⟩ <;> first | omega | exact ⟨g, c, e1⟩)
  subst hv6
  refine hKz.out _ _ (by first | exact hS | exact Below.trans hOn (Below.mono hnew (Below.size hOn))) (fun hNext => ?_)
  clear hKz Kz hOn
  have hOn := hNext
  clear hNext
  try clear hnew
  try clear hS
  try simp only [Act.put]
  refine wpAnyH_take (i := 12) (v := ?_) (by simp only [List.getElem?_toArray, List.getElem?_cons_succ, List.getElem?_cons_zero]; rfl) (by kernel_rfl) (by kernel_rfl) (by kernel_rfl) (by exact fun _ _ _ h => h) (Or.inl ⟨by rfl, ?_⟩) hOn ?_
  rotate_left
  focus (intro W hSW; go_simp; try with_reducible rfl)
  try simp only [Act.put, List.setIfInBounds_toArray, List.set_cons_zero, List.set_cons_succ]
  refine wpAnyH_take (i := 13) (v := ?_) (by simp only [List.getElem?_toArray, List.getElem?_cons_succ, List.getElem?_cons_zero]; rfl) (by kernel_rfl) (by kernel_rfl) (by kernel_rfl) (by exact fun _ _ _ h => h) (Or.inl ⟨by rfl, ?_⟩) hOn ?_
  rotate_left
  focus (intro W hSW; go_simp; try with_reducible rfl)
  try simp only [Act.put, List.setIfInBounds_toArray, List.set_cons_zero, List.set_cons_succ]
  refine wpAnyH_ready (rs := [14]) (by kernel_rfl) (by simp) ?_
  refine AllReadyH.cons (by simp only [List.getElem?_toArray, List.getElem?_cons_succ, List.getElem?_cons_zero]; rfl) (fun Kz hKz => ?_) AllReadyH.nil
  go_simp
  have hU7 := (Upd.refl hat6.out).setCell (j := 2) (.slice (some ⟨g6, 0, none⟩) (ws.length + 1) c6)
  have hS := rangeAt_only hOn (Only.ofUpd hU7 rfl : Only (fun k => k = B) _ _) hbB
  replace hU7 := Lib.hid hU7
  refine hKz.out _ _ (by first | exact hS | exact Below.trans hOn (Below.mono hnew (Below.size hOn))) (fun hNext => ?_)
  clear hKz Kz hOn
  have hOn := hNext
  clear hNext
  try clear hnew
  try clear hS
  try simp only [Act.put]
  refine wpAnyH_done (by kernel_rfl) ?_ _
  all_goals
    go_wp2_with fail
    go_ret
    refine ⟨rfl, _, hU7.out.here, ?_, ?_, ?_⟩
    · rw [hxs.out]
      exact (Only.ofUpd hU7.out rfl : Only (fun k => k = B) _ _).owns ho6.out (fun k hk e => by
        subst e
        rcases hk6.out with h | h
        · exact hvB.out k (h.symm.trans hk) rfl
        · rw [hk] at h; injection h with h; omega)
    · rw [hv.out]
      exact hO6.out.trans (Only.ofUpd hU7.out rfl : Only (fun k => k = B) _ _) (fun _ _ h => .inl h)
    · intro k hk
      rw [hv.out]
      rcases hk6.out with h | h
      · exact .inl (h.symm.trans hk)
      · rw [hk] at h; injection h with h; exact .inr (by omega)
end Go.Proofs.YtdgilgnaoifpcaaDoor
