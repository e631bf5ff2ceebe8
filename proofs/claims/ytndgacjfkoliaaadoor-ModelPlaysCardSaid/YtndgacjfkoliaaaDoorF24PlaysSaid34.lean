/- The model's Kept, Asked, Judged where an error comes of it. Printed by genmex.py. -/
import Derived.Test.YtndgacjfkoliaaaDoorF23PlaysSaid34
import Derived.Test.YtndgacjfkoliaaaDoorF4PlaysSaid34
namespace Go.Proofs.YtndgacjfkoliaaaDoor
open Go.RowKit
set_option linter.unusedSimpArgs false
set_option linter.unusedVariables false

set_option maxRecDepth 100000 in
set_option maxHeartbeats 2000000 in
theorem mkept_none (va : Value) (m : Md) (w : World) (ha : ArgM w va m) (l1 : m.ns.length ≤ 1000) (l2 : m.vs.length ≤ 1000) (q : Int) (h1 : ¬ (0 ≤ q ∧ q < m.ns.length)) (ea : Nat → Addr) (H : Errs 137 errGs w ea) :
    Calls Tryd.prog 15 #[va, .int .i64 q] w (KPost ea m 11 w) := by
  have ha0 := ha
  obtain ⟨⟨an, cn, av, cv, e0, hN, -, -, hV, -, -⟩, okN, okV⟩ := ha
  have hc := Lib.hid (fun W (h : Below w.heap.size w W) => show Calls Tryd.prog 25 #[va, .int .i64 q] W fun x w' => x = .returned (.bool false) ∧ Below W.heap.size W w' from by have := there_any va m W (ha0.below h (Nat.le_refl _)) q; rwa [decide_eq_false h1] at this)
  obtain ⟨N, hNl⟩ : ∃ N, N = m.ns.length := ⟨_, rfl⟩
  obtain ⟨V, hVl⟩ : ∃ V, V = m.vs.length := ⟨_, rfl⟩
  rw [← hNl, ← hVl] at e0
  obtain ⟨CM, hCM⟩ : ∃ CM : Array Value, CM = #[.slice an N cn, .slice av V cv] := ⟨_, rfl⟩
  rw [← hCM] at e0
  subst e0
  obtain ⟨a1, a2, hs2, hB⟩ := boxes2 w CM #[.slice none 0 0, .slice none 0 0] 28 28 _ rfl
  obtain ⟨w2, hw2⟩ : ∃ w2, w2 = (w.alloc (.cells CM 28)).alloc (.cells #[.slice none 0 0, .slice none 0 0] 28) := ⟨_, rfl⟩
  rw [← hw2] at a1 a2 hB
  have e10 : w2.cell? ⟨w.heap.size, 0, none⟩ = some (.slice an N cn) := by rw [cell_of_block a1, hCM]; rfl
  have e11 : w2.cell? ⟨w.heap.size, 1, none⟩ = some (.slice av V cv) := by rw [cell_of_block a1, hCM]; rfl
  have hzA : (Tryd.prog.info? 28).map (·.size) = some CM.size := by rw [hCM]; kernel_rfl
  have h1M : CM.all (·.oneCell') = true := by rw [hCM]; simp [Value.oneCell']
  have hss : (#[.slice none 0 0, .slice none 0 0] : Array Value).size = CM.size := by rw [hCM]; rfl
  have huA := Tryd.underlying28
  have e10x := e10
  rw [hw2] at e10x
  have e11x := e11
  rw [hw2] at e11x
  have hge := Lib.hid (fun W (h : Below w.heap.size w W) => (num_cells (H.below h)).2.2.2.2.2.2.2.2.2.2.1)
  have hpost : Hid (∀ W, Below w.heap.size w W → KPost ea m 11 w (.returned (.tuple #[.agg CM, .iface 137 (.pointer (some (ea 10)))])) W) := Lib.hid (fun W h => ⟨_, _, rfl, ha0.below h (Nat.le_refl _), .inr (.inl ⟨10, by decide, rfl, rfl⟩), h⟩)
  have hgl : 4 < w.heap.size := World.block_lt_of_cell? w _ (hge.out w (Below.refl _ _))
  replace hNl := Lib.hid hNl
  replace hVl := Lib.hid hVl
  replace hCM := Lib.hid hCM
  replace hw2 := Lib.hid hw2
  replace a1 := Lib.hid a1
  replace a2 := Lib.hid a2
  replace hB := Lib.hid hB
  replace hs2 := Lib.hid hs2
  clear ha0 hN hV okN okV H
  go_enter Tryd.func15, Tryd.ntmps15
  go_wp2_with ((with_reducible show wpList _ _ _ (Oper.mk _ (Op.load 28 (.tmp 2)) _ _ _ _ :: _) _ _); (try rw [← hw2.out]); refine wpList_load_row rfl 28 (.tmp 2) rfl w.heap.size CM _ rfl a1 huA rfl hzA ?_)
  (try rw [← hw2.out])
  with_reducible refine (hc.out w2 hB.out).mono ?_
  clear hc
  rintro x w3 ⟨rfl, hb3⟩
  replace e10 := (hb3.cell (World.block_lt_of_cell? w2 _ e10)).trans e10
  replace e11 := (hb3.cell (World.block_lt_of_cell? w2 _ e11)).trans e11
  replace a1 := Lib.hid ((hb3.block _ (block_lt a1.out)).trans a1.out)
  replace a2 := Lib.hid ((hb3.block _ (block_lt a2.out)).trans a2.out)
  have hB3 := Lib.hid (hB.out.trans (hb3.mono hB.out.size))
  clear hb3 hB e10x e11x
  generalize w3 = wz at *
  have hBz := hB3
  go_wp2_with fail
  have hd0 : Hid (Only (fun k => k = w.heap.size + 1) wz wz.drew) := Lib.hid ((Only.refl _ _).drew)
  have rlA : ∀ W : World, Only (fun k => k = w.heap.size + 1) wz W → W.heap[w.heap.size]? = some (.cells CM 28 (0, 0)) := fun W hW => hW.heap a1.out (by omega)
  have hgz := hge.out wz hBz.out
  have hcW : ∀ W : World, Only (fun k => k = w.heap.size + 1) wz W → W.cell? ⟨4, 0, none⟩ = some (.iface 137 (.pointer (some (ea 10)))) := fun W hW => (World.cell?_of_block (a := ⟨4, 0, none⟩) (hW.block _ (World.block_lt_of_cell? wz _ hgz) (by simp only at hgl ⊢; omega))).trans hgz
  replace a2 : Hid (wz.drew.heap[w.heap.size + 1]? = some (.cells #[.slice none 0 0, .slice none 0 0] 28 (0, 0))) := Lib.hid a2.out
  clear hgz e10 e11
  refine wp_region_held_drew (S := (Only (fun k => k = w.heap.size + 1) wz)) (by kernel_rfl) hd0.out (fun hOn => ?_)
  generalize World.drew wz = wd at *
  refine wpAnyH_take (i := 0) (v := Value.agg _) (by simp only [List.getElem?_toArray, List.getElem?_cons_zero]; rfl) (by kernel_rfl) (by kernel_rfl) (by kernel_rfl) (by exact fun _ _ _ h => h) (Or.inl ⟨by rfl, fun W hSW => yields_load_row _ _ rfl _ _ _ rfl (rlA W hSW) huA rfl hzA⟩) hOn ?_
  try simp only [Act.put, List.setIfInBounds_toArray, List.set_cons_zero, List.set_cons_succ]
  refine wpAnyH_take (i := 1) (v := ?_) (by simp only [List.getElem?_toArray, List.getElem?_cons_succ, List.getElem?_cons_zero]; rfl) (by kernel_rfl) (by kernel_rfl) (by kernel_rfl) (by exact fun _ _ _ h => h) (Or.inl ⟨by rfl, ?_⟩) hOn ?_
  rotate_left
  focus (intro W hSW; go_simp; try with_reducible rfl)
  try simp only [Act.put, List.setIfInBounds_toArray, List.set_cons_zero, List.set_cons_succ]
  refine wpAnyH_ready (rs := [2]) (by kernel_rfl) (by simp) ?_
  refine AllReadyH.cons (by simp only [List.getElem?_toArray, List.getElem?_cons_succ, List.getElem?_cons_zero]; rfl) (fun Kz hKz => ?_) AllReadyH.nil
  rw [if_pos (by rfl)]
  (with_reducible refine wp_store_rowK 28 (.tmp 4) (.tmp 12) rfl (w.heap.size + 1) #[.slice none 0 0, .slice none 0 0] CM rfl rfl a2 hzA hss h1M ?_)
  intro w9 hU9
  have hS := hOn.trans (Only.ofUpd (D := fun k => k = w.heap.size + 1) hU9.out rfl) (fun _ _ e => e)
  have hres := Lib.hid hU9.out.here
  refine hKz.out _ _ (by first | exact hS | exact Below.trans hOn (Below.mono hnew (Below.size hOn))) (fun hNext => ?_)
  clear hKz Kz hOn
  have hOn := hNext
  clear hNext
  try clear hnew
  try clear hS
  try simp only [Act.put]
  refine wpAnyH_take (i := 3) (v := ?_) (by simp only [List.getElem?_toArray, List.getElem?_cons_succ, List.getElem?_cons_zero]; rfl) (by kernel_rfl) (by kernel_rfl) (by kernel_rfl) (by exact fun _ _ _ h => h) (Or.inl ⟨by rfl, ?_⟩) hOn ?_
  rotate_left
  focus (intro W hSW; go_simp; try with_reducible rfl)
  try simp only [Act.put, List.setIfInBounds_toArray, List.set_cons_zero, List.set_cons_succ]
  refine wpAnyH_done (by kernel_rfl) ?_ _
  all_goals
    go_wp2_with fail
    refine ret_cell_tmpB (c := CM) rfl rfl huA rfl hzA hres.out ?_
    exact hpost.out _ (hBz.out.trans (hOn.below (by have := hBz.out.size; omega) (fun k e => by omega)))

set_option maxRecDepth 100000 in
set_option maxHeartbeats 2000000 in
theorem mkept_state (va : Value) (m : Md) (w : World) (ha : ArgM w va m) (l1 : m.ns.length ≤ 1000) (l2 : m.vs.length ≤ 1000) (i : Nat) (hi : i < m.ns.length) (hk : m.ns[i].k = true) (ea : Nat → Addr) (H : Errs 137 errGs w ea) :
    Calls Tryd.prog 15 #[va, .int .i64 (i : Int)] w (KPost ea m 13 w) := by
  have ha0 := ha
  obtain ⟨⟨an, cn, av, cv, e0, hN, -, -, hV, -, -⟩, okN, okV⟩ := ha
  have hc := Lib.hid (fun W (h : Below w.heap.size w W) => show Calls Tryd.prog 25 #[va, .int .i64 (i : Int)] W fun x w' => x = .returned (.bool true) ∧ Below W.heap.size W w' from by have := there_any va m W (ha0.below h (Nat.le_refl _)) (i : Int); rwa [decide_eq_true ⟨by omega, by omega⟩] at this)
  obtain ⟨N, hNl⟩ : ∃ N, N = m.ns.length := ⟨_, rfl⟩
  obtain ⟨V, hVl⟩ : ∃ V, V = m.vs.length := ⟨_, rfl⟩
  rw [← hNl, ← hVl] at e0
  obtain ⟨CM, hCM⟩ : ∃ CM : Array Value, CM = #[.slice an N cn, .slice av V cv] := ⟨_, rfl⟩
  rw [← hCM] at e0
  subst e0
  obtain ⟨a1, a2, hs2, hB⟩ := boxes2 w CM #[.slice none 0 0, .slice none 0 0] 28 28 _ rfl
  obtain ⟨w2, hw2⟩ : ∃ w2, w2 = (w.alloc (.cells CM 28)).alloc (.cells #[.slice none 0 0, .slice none 0 0] 28) := ⟨_, rfl⟩
  rw [← hw2] at a1 a2 hB
  have e10 : w2.cell? ⟨w.heap.size, 0, none⟩ = some (.slice an N cn) := by rw [cell_of_block a1, hCM]; rfl
  have e11 : w2.cell? ⟨w.heap.size, 1, none⟩ = some (.slice av V cv) := by rw [cell_of_block a1, hCM]; rfl
  obtain ⟨b, o, hab, hr⟩ := hN i hi
  subst hab
  have k39 : w2.cell? ⟨b, o + i * 40 + 39, none⟩ = some (.bool true) := (hB.cell (World.block_lt_of_cell? w _ (hr 39 _ (by rw [Nm.c39 (okN _ (List.getElem_mem hi)).f, hk])))).trans (hr 39 _ (by rw [Nm.c39 (okN _ (List.getElem_mem hi)).f, hk]))
  have hii : (i : Int) < (N : Int) := by rw [hNl]; omega
  have hzA : (Tryd.prog.info? 28).map (·.size) = some CM.size := by rw [hCM]; kernel_rfl
  have h1M : CM.all (·.oneCell') = true := by rw [hCM]; simp [Value.oneCell']
  have hss : (#[.slice none 0 0, .slice none 0 0] : Array Value).size = CM.size := by rw [hCM]; rfl
  have huA := Tryd.underlying28
  have e10x := e10
  rw [hw2] at e10x
  have e11x := e11
  rw [hw2] at e11x
  have k39x := k39
  rw [hw2] at k39x
  have hge := Lib.hid (fun W (h : Below w.heap.size w W) => (num_cells (H.below h)).2.2.2.2.2.2.2.2.2.2.2.2.1)
  have hpost : Hid (∀ W, Below w.heap.size w W → KPost ea m 13 w (.returned (.tuple #[.agg CM, .iface 137 (.pointer (some (ea 12)))])) W) := Lib.hid (fun W h => ⟨_, _, rfl, ha0.below h (Nat.le_refl _), .inr (.inl ⟨12, by decide, rfl, rfl⟩), h⟩)
  have hgl : 5 < w.heap.size := World.block_lt_of_cell? w _ (hge.out w (Below.refl _ _))
  replace hNl := Lib.hid hNl
  replace hVl := Lib.hid hVl
  replace hCM := Lib.hid hCM
  replace hw2 := Lib.hid hw2
  replace a1 := Lib.hid a1
  replace a2 := Lib.hid a2
  replace hB := Lib.hid hB
  replace hs2 := Lib.hid hs2
  clear ha0 hN hV okN okV H hr
  go_enter Tryd.func15, Tryd.ntmps15
  go_wp2_with ((with_reducible show wpList _ _ _ (Oper.mk _ (Op.load 28 (.tmp 2)) _ _ _ _ :: _) _ _); (try rw [← hw2.out]); refine wpList_load_row rfl 28 (.tmp 2) rfl w.heap.size CM _ rfl a1 huA rfl hzA ?_)
  (try rw [← hw2.out])
  with_reducible refine (hc.out w2 hB.out).mono ?_
  clear hc
  rintro x w3 ⟨rfl, hb3⟩
  replace e10 := (hb3.cell (World.block_lt_of_cell? w2 _ e10)).trans e10
  replace e11 := (hb3.cell (World.block_lt_of_cell? w2 _ e11)).trans e11
  replace k39 := (hb3.cell (World.block_lt_of_cell? w2 _ k39)).trans k39
  replace a1 := Lib.hid ((hb3.block _ (block_lt a1.out)).trans a1.out)
  replace a2 := Lib.hid ((hb3.block _ (block_lt a2.out)).trans a2.out)
  have hB3 := Lib.hid (hB.out.trans (hb3.mono hB.out.size))
  clear hb3 hB e10x e11x k39x
  generalize w3 = wz at *
  have hBz := hB3
  go_wp2_with fail
  have hd0 : Hid (Only (fun k => k = w.heap.size + 1) wz wz.drew) := Lib.hid ((Only.refl _ _).drew)
  have rlA : ∀ W : World, Only (fun k => k = w.heap.size + 1) wz W → W.heap[w.heap.size]? = some (.cells CM 28 (0, 0)) := fun W hW => hW.heap a1.out (by omega)
  have hgz := hge.out wz hBz.out
  have hcW : ∀ W : World, Only (fun k => k = w.heap.size + 1) wz W → W.cell? ⟨5, 0, none⟩ = some (.iface 137 (.pointer (some (ea 12)))) := fun W hW => (World.cell?_of_block (a := ⟨5, 0, none⟩) (hW.block _ (World.block_lt_of_cell? wz _ hgz) (by simp only at hgl ⊢; omega))).trans hgz
  replace a2 : Hid (wz.drew.heap[w.heap.size + 1]? = some (.cells #[.slice none 0 0, .slice none 0 0] 28 (0, 0))) := Lib.hid a2.out
  clear hgz e10 e11 k39
  refine wp_region_held_drew (S := (Only (fun k => k = w.heap.size + 1) wz)) (by kernel_rfl) hd0.out (fun hOn => ?_)
  generalize World.drew wz = wd at *
  refine wpAnyH_take (i := 0) (v := Value.agg _) (by simp only [List.getElem?_toArray, List.getElem?_cons_zero]; rfl) (by kernel_rfl) (by kernel_rfl) (by kernel_rfl) (by exact fun _ _ _ h => h) (Or.inl ⟨by rfl, fun W hSW => yields_load_row _ _ rfl _ _ _ rfl (rlA W hSW) huA rfl hzA⟩) hOn ?_
  try simp only [Act.put, List.setIfInBounds_toArray, List.set_cons_zero, List.set_cons_succ]
  refine wpAnyH_take (i := 1) (v := ?_) (by simp only [List.getElem?_toArray, List.getElem?_cons_succ, List.getElem?_cons_zero]; rfl) (by kernel_rfl) (by kernel_rfl) (by kernel_rfl) (by exact fun _ _ _ h => h) (Or.inl ⟨by rfl, ?_⟩) hOn ?_
  rotate_left
  focus (intro W hSW; go_simp; try with_reducible rfl)
  try simp only [Act.put, List.setIfInBounds_toArray, List.set_cons_zero, List.set_cons_succ]
  refine wpAnyH_ready (rs := [2]) (by kernel_rfl) (by simp) ?_
  refine AllReadyH.cons (by simp only [List.getElem?_toArray, List.getElem?_cons_succ, List.getElem?_cons_zero]; rfl) (fun Kz hKz => ?_) AllReadyH.nil
  rw [if_pos (by rfl)]
  (with_reducible refine wp_store_rowK 28 (.tmp 4) (.tmp 21) rfl (w.heap.size + 1) #[.slice none 0 0, .slice none 0 0] CM rfl rfl a2 hzA hss h1M ?_)
  intro w9 hU9
  have hS := hOn.trans (Only.ofUpd (D := fun k => k = w.heap.size + 1) hU9.out rfl) (fun _ _ e => e)
  have hres := Lib.hid hU9.out.here
  refine hKz.out _ _ (by first | exact hS | exact Below.trans hOn (Below.mono hnew (Below.size hOn))) (fun hNext => ?_)
  clear hKz Kz hOn
  have hOn := hNext
  clear hNext
  try clear hnew
  try clear hS
  try simp only [Act.put]
  refine wpAnyH_take (i := 3) (v := ?_) (by simp only [List.getElem?_toArray, List.getElem?_cons_succ, List.getElem?_cons_zero]; rfl) (by kernel_rfl) (by kernel_rfl) (by kernel_rfl) (by exact fun _ _ _ h => h) (Or.inl ⟨by rfl, ?_⟩) hOn ?_
  rotate_left
  focus (intro W hSW; go_simp; try with_reducible rfl)
  try simp only [Act.put, List.setIfInBounds_toArray, List.set_cons_zero, List.set_cons_succ]
  refine wpAnyH_done (by kernel_rfl) ?_ _
  all_goals
    go_wp2_with fail
    refine ret_cell_tmpB (c := CM) rfl rfl huA rfl hzA hres.out ?_
    exact hpost.out _ (hBz.out.trans (hOn.below (by have := hBz.out.size; omega) (fun k e => by omega)))

set_option maxRecDepth 100000 in
set_option maxHeartbeats 2000000 in
theorem masked_kind (va : Value) (m : Md) (w : World) (ha : ArgM w va m) (l1 : m.ns.length ≤ 1000) (l2 : m.vs.length ≤ 1000) (q way : Int) (h1 : way ≠ 1) (h2 : way ≠ 2) (ea : Nat → Addr) (H : Errs 137 errGs w ea) :
    Calls Tryd.prog 16 #[va, .int .i64 q, .int .i64 way] w (NPost ea m 0 7 w) := by
  have ha0 := ha
  obtain ⟨⟨an, cn, av, cv, e0, hN, -, -, hV, -, -⟩, okN, okV⟩ := ha
  obtain ⟨N, hNl⟩ : ∃ N, N = m.ns.length := ⟨_, rfl⟩
  obtain ⟨V, hVl⟩ : ∃ V, V = m.vs.length := ⟨_, rfl⟩
  rw [← hNl, ← hVl] at e0
  obtain ⟨CM, hCM⟩ : ∃ CM : Array Value, CM = #[.slice an N cn, .slice av V cv] := ⟨_, rfl⟩
  rw [← hCM] at e0
  subst e0
  obtain ⟨a1, a2, hs2, hB⟩ := boxes2 w CM #[.slice none 0 0, .slice none 0 0] 28 28 _ rfl
  obtain ⟨w2, hw2⟩ : ∃ w2, w2 = (w.alloc (.cells CM 28)).alloc (.cells #[.slice none 0 0, .slice none 0 0] 28) := ⟨_, rfl⟩
  rw [← hw2] at a1 a2 hB
  have e10 : w2.cell? ⟨w.heap.size, 0, none⟩ = some (.slice an N cn) := by rw [cell_of_block a1, hCM]; rfl
  have e11 : w2.cell? ⟨w.heap.size, 1, none⟩ = some (.slice av V cv) := by rw [cell_of_block a1, hCM]; rfl
  have t1 : (way != 1) = true := by simpa using h1
  have t2 : (way != 2) = true := by simpa using h2
  have hzA : (Tryd.prog.info? 28).map (·.size) = some CM.size := by rw [hCM]; kernel_rfl
  have h1M : CM.all (·.oneCell') = true := by rw [hCM]; simp [Value.oneCell']
  have hss : (#[.slice none 0 0, .slice none 0 0] : Array Value).size = CM.size := by rw [hCM]; rfl
  have huA := Tryd.underlying28
  have e10x := e10
  rw [hw2] at e10x
  have e11x := e11
  rw [hw2] at e11x
  have hge := Lib.hid (fun W (h : Below w.heap.size w W) => (num_cells (H.below h)).2.2.2.2.2.2.1)
  have hpost : Hid (∀ W, Below w.heap.size w W → NPost ea m 0 7 w (.returned (.tuple #[.agg CM, .int .i64 0, .iface 137 (.pointer (some (ea 6)))])) W) := Lib.hid (fun W h => ⟨_, _, rfl, ha0.below h (Nat.le_refl _), .inr (.inl ⟨6, by decide, rfl, rfl⟩), h⟩)
  have hgl : 6 < w.heap.size := World.block_lt_of_cell? w _ (hge.out w (Below.refl _ _))
  replace hNl := Lib.hid hNl
  replace hVl := Lib.hid hVl
  replace hCM := Lib.hid hCM
  replace hw2 := Lib.hid hw2
  replace a1 := Lib.hid a1
  replace a2 := Lib.hid a2
  replace hB := Lib.hid hB
  replace hs2 := Lib.hid hs2
  clear ha0 hN hV okN okV H h1 h2
  go_enter Tryd.func16, Tryd.ntmps16
  go_wp2_with fail
  rw [← hw2.out]
  generalize w2 = wz at *
  have hBz := hB
  clear e10x e11x
  have hd0 : Hid (Only (fun k => k = w.heap.size + 1) wz wz.drew) := Lib.hid ((Only.refl _ _).drew)
  have rlA : ∀ W : World, Only (fun k => k = w.heap.size + 1) wz W → W.heap[w.heap.size]? = some (.cells CM 28 (0, 0)) := fun W hW => hW.heap a1.out (by omega)
  have hgz := hge.out wz hBz.out
  have hcW : ∀ W : World, Only (fun k => k = w.heap.size + 1) wz W → W.cell? ⟨6, 0, none⟩ = some (.iface 137 (.pointer (some (ea 6)))) := fun W hW => (World.cell?_of_block (a := ⟨6, 0, none⟩) (hW.block _ (World.block_lt_of_cell? wz _ hgz) (by simp only at hgl ⊢; omega))).trans hgz
  replace a2 : Hid (wz.drew.heap[w.heap.size + 1]? = some (.cells #[.slice none 0 0, .slice none 0 0] 28 (0, 0))) := Lib.hid a2.out
  clear hgz e10 e11
  refine wp_region_held_drew (S := (Only (fun k => k = w.heap.size + 1) wz)) (by kernel_rfl) hd0.out (fun hOn => ?_)
  generalize World.drew wz = wd at *
  refine wpAnyH_take (i := 0) (v := Value.agg _) (by simp only [List.getElem?_toArray, List.getElem?_cons_zero]; rfl) (by kernel_rfl) (by kernel_rfl) (by kernel_rfl) (by exact fun _ _ _ h => h) (Or.inl ⟨by rfl, fun W hSW => yields_load_row _ _ rfl _ _ _ rfl (rlA W hSW) huA rfl hzA⟩) hOn ?_
  try simp only [Act.put, List.setIfInBounds_toArray, List.set_cons_zero, List.set_cons_succ]
  refine wpAnyH_take (i := 1) (v := ?_) (by simp only [List.getElem?_toArray, List.getElem?_cons_succ, List.getElem?_cons_zero]; rfl) (by kernel_rfl) (by kernel_rfl) (by kernel_rfl) (by exact fun _ _ _ h => h) (Or.inl ⟨by rfl, ?_⟩) hOn ?_
  rotate_left
  focus (intro W hSW; go_simp; try with_reducible rfl)
  try simp only [Act.put, List.setIfInBounds_toArray, List.set_cons_zero, List.set_cons_succ]
  refine wpAnyH_ready (rs := [2]) (by kernel_rfl) (by simp) ?_
  refine AllReadyH.cons (by simp only [List.getElem?_toArray, List.getElem?_cons_succ, List.getElem?_cons_zero]; rfl) (fun Kz hKz => ?_) AllReadyH.nil
  rw [if_pos (by rfl)]
  (with_reducible refine wp_store_rowK 28 (.tmp 6) (.tmp 17) rfl (w.heap.size + 1) #[.slice none 0 0, .slice none 0 0] CM rfl rfl a2 hzA hss h1M ?_)
  intro w9 hU9
  have hS := hOn.trans (Only.ofUpd (D := fun k => k = w.heap.size + 1) hU9.out rfl) (fun _ _ e => e)
  have hres := Lib.hid hU9.out.here
  refine hKz.out _ _ (by first | exact hS | exact Below.trans hOn (Below.mono hnew (Below.size hOn))) (fun hNext => ?_)
  clear hKz Kz hOn
  have hOn := hNext
  clear hNext
  try clear hnew
  try clear hS
  try simp only [Act.put]
  refine wpAnyH_take (i := 3) (v := ?_) (by simp only [List.getElem?_toArray, List.getElem?_cons_succ, List.getElem?_cons_zero]; rfl) (by kernel_rfl) (by kernel_rfl) (by kernel_rfl) (by exact fun _ _ _ h => h) (Or.inl ⟨by rfl, ?_⟩) hOn ?_
  rotate_left
  focus (intro W hSW; go_simp; try with_reducible rfl)
  try simp only [Act.put, List.setIfInBounds_toArray, List.set_cons_zero, List.set_cons_succ]
  refine wpAnyH_take (i := 4) (v := ?_) (by simp only [List.getElem?_toArray, List.getElem?_cons_succ, List.getElem?_cons_zero]; rfl) (by kernel_rfl) (by kernel_rfl) (by kernel_rfl) (by exact fun _ _ _ h => h) (Or.inl ⟨by rfl, ?_⟩) hOn ?_
  rotate_left
  focus (intro W hSW; go_simp; try with_reducible rfl)
  try simp only [Act.put, List.setIfInBounds_toArray, List.set_cons_zero, List.set_cons_succ]
  refine wpAnyH_done (by kernel_rfl) ?_ _
  all_goals
    go_wp2_with fail
    refine ret_cell_tmp2 (c := CM) rfl rfl huA rfl hzA hres.out ?_
    exact hpost.out _ (hBz.out.trans (hOn.below (by have := hBz.out.size; omega) (fun k e => by omega)))

set_option maxRecDepth 100000 in
set_option maxHeartbeats 2000000 in
theorem masked_none (va : Value) (m : Md) (w : World) (ha : ArgM w va m) (l1 : m.ns.length ≤ 1000) (l2 : m.vs.length ≤ 1000) (way : Int) (hw : way = 1 ∨ way = 2) (q : Int) (h1 : ¬ (0 ≤ q ∧ q < m.ns.length)) (ea : Nat → Addr) (H : Errs 137 errGs w ea) :
    Calls Tryd.prog 16 #[va, .int .i64 q, .int .i64 way] w (NPost ea m 0 11 w) := by
  rcases hw with rfl | rfl
  · have ha0 := ha
    obtain ⟨⟨an, cn, av, cv, e0, hN, -, -, hV, -, -⟩, okN, okV⟩ := ha
    have hc := Lib.hid (fun W (h : Below w.heap.size w W) => show Calls Tryd.prog 25 #[va, .int .i64 q] W fun x w' => x = .returned (.bool false) ∧ Below W.heap.size W w' from by have := there_any va m W (ha0.below h (Nat.le_refl _)) q; rwa [decide_eq_false h1] at this)
    obtain ⟨N, hNl⟩ : ∃ N, N = m.ns.length := ⟨_, rfl⟩
    obtain ⟨V, hVl⟩ : ∃ V, V = m.vs.length := ⟨_, rfl⟩
    rw [← hNl, ← hVl] at e0
    obtain ⟨CM, hCM⟩ : ∃ CM : Array Value, CM = #[.slice an N cn, .slice av V cv] := ⟨_, rfl⟩
    rw [← hCM] at e0
    subst e0
    obtain ⟨a1, a2, hs2, hB⟩ := boxes2 w CM #[.slice none 0 0, .slice none 0 0] 28 28 _ rfl
    obtain ⟨w2, hw2⟩ : ∃ w2, w2 = (w.alloc (.cells CM 28)).alloc (.cells #[.slice none 0 0, .slice none 0 0] 28) := ⟨_, rfl⟩
    rw [← hw2] at a1 a2 hB
    have e10 : w2.cell? ⟨w.heap.size, 0, none⟩ = some (.slice an N cn) := by rw [cell_of_block a1, hCM]; rfl
    have e11 : w2.cell? ⟨w.heap.size, 1, none⟩ = some (.slice av V cv) := by rw [cell_of_block a1, hCM]; rfl
    have hzA : (Tryd.prog.info? 28).map (·.size) = some CM.size := by rw [hCM]; kernel_rfl
    have h1M : CM.all (·.oneCell') = true := by rw [hCM]; simp [Value.oneCell']
    have hss : (#[.slice none 0 0, .slice none 0 0] : Array Value).size = CM.size := by rw [hCM]; rfl
    have huA := Tryd.underlying28
    have e10x := e10
    rw [hw2] at e10x
    have e11x := e11
    rw [hw2] at e11x
    have hge := Lib.hid (fun W (h : Below w.heap.size w W) => (num_cells (H.below h)).2.2.2.2.2.2.2.2.2.2.1)
    have hpost : Hid (∀ W, Below w.heap.size w W → NPost ea m 0 11 w (.returned (.tuple #[.agg CM, .int .i64 0, .iface 137 (.pointer (some (ea 10)))])) W) := Lib.hid (fun W h => ⟨_, _, rfl, ha0.below h (Nat.le_refl _), .inr (.inl ⟨10, by decide, rfl, rfl⟩), h⟩)
    have hgl : 4 < w.heap.size := World.block_lt_of_cell? w _ (hge.out w (Below.refl _ _))
    replace hNl := Lib.hid hNl
    replace hVl := Lib.hid hVl
    replace hCM := Lib.hid hCM
    replace hw2 := Lib.hid hw2
    replace a1 := Lib.hid a1
    replace a2 := Lib.hid a2
    replace hB := Lib.hid hB
    replace hs2 := Lib.hid hs2
    clear ha0 hN hV okN okV H
    go_enter Tryd.func16, Tryd.ntmps16
    go_wp2_with ((with_reducible show wpList _ _ _ (Oper.mk _ (Op.load 28 (.tmp 3)) _ _ _ _ :: _) _ _); (try rw [← hw2.out]); refine wpList_load_row rfl 28 (.tmp 3) rfl w.heap.size CM _ rfl a1 huA rfl hzA ?_)
    (try rw [← hw2.out])
    with_reducible refine (hc.out w2 hB.out).mono ?_
    clear hc
    rintro x w3 ⟨rfl, hb3⟩
    replace e10 := (hb3.cell (World.block_lt_of_cell? w2 _ e10)).trans e10
    replace e11 := (hb3.cell (World.block_lt_of_cell? w2 _ e11)).trans e11
    replace a1 := Lib.hid ((hb3.block _ (block_lt a1.out)).trans a1.out)
    replace a2 := Lib.hid ((hb3.block _ (block_lt a2.out)).trans a2.out)
    have hB3 := Lib.hid (hB.out.trans (hb3.mono hB.out.size))
    clear hb3 hB e10x e11x
    generalize w3 = wz at *
    have hBz := hB3
    go_wp2_with fail
    have hd0 : Hid (Only (fun k => k = w.heap.size + 1) wz wz.drew) := Lib.hid ((Only.refl _ _).drew)
    have rlA : ∀ W : World, Only (fun k => k = w.heap.size + 1) wz W → W.heap[w.heap.size]? = some (.cells CM 28 (0, 0)) := fun W hW => hW.heap a1.out (by omega)
    have hgz := hge.out wz hBz.out
    have hcW : ∀ W : World, Only (fun k => k = w.heap.size + 1) wz W → W.cell? ⟨4, 0, none⟩ = some (.iface 137 (.pointer (some (ea 10)))) := fun W hW => (World.cell?_of_block (a := ⟨4, 0, none⟩) (hW.block _ (World.block_lt_of_cell? wz _ hgz) (by simp only at hgl ⊢; omega))).trans hgz
    replace a2 : Hid (wz.drew.heap[w.heap.size + 1]? = some (.cells #[.slice none 0 0, .slice none 0 0] 28 (0, 0))) := Lib.hid a2.out
    clear hgz e10 e11
    refine wp_region_held_drew (S := (Only (fun k => k = w.heap.size + 1) wz)) (by kernel_rfl) hd0.out (fun hOn => ?_)
    generalize World.drew wz = wd at *
    refine wpAnyH_take (i := 0) (v := Value.agg _) (by simp only [List.getElem?_toArray, List.getElem?_cons_zero]; rfl) (by kernel_rfl) (by kernel_rfl) (by kernel_rfl) (by exact fun _ _ _ h => h) (Or.inl ⟨by rfl, fun W hSW => yields_load_row _ _ rfl _ _ _ rfl (rlA W hSW) huA rfl hzA⟩) hOn ?_
    try simp only [Act.put, List.setIfInBounds_toArray, List.set_cons_zero, List.set_cons_succ]
    refine wpAnyH_take (i := 1) (v := ?_) (by simp only [List.getElem?_toArray, List.getElem?_cons_succ, List.getElem?_cons_zero]; rfl) (by kernel_rfl) (by kernel_rfl) (by kernel_rfl) (by exact fun _ _ _ h => h) (Or.inl ⟨by rfl, ?_⟩) hOn ?_
    rotate_left
    focus (intro W hSW; go_simp; try with_reducible rfl)
    try simp only [Act.put, List.setIfInBounds_toArray, List.set_cons_zero, List.set_cons_succ]
    refine wpAnyH_ready (rs := [2]) (by kernel_rfl) (by simp) ?_
    refine AllReadyH.cons (by simp only [List.getElem?_toArray, List.getElem?_cons_succ, List.getElem?_cons_zero]; rfl) (fun Kz hKz => ?_) AllReadyH.nil
    rw [if_pos (by rfl)]
    (with_reducible refine wp_store_rowK 28 (.tmp 6) (.tmp 24) rfl (w.heap.size + 1) #[.slice none 0 0, .slice none 0 0] CM rfl rfl a2 hzA hss h1M ?_)
    intro w9 hU9
    have hS := hOn.trans (Only.ofUpd (D := fun k => k = w.heap.size + 1) hU9.out rfl) (fun _ _ e => e)
    have hres := Lib.hid hU9.out.here
    refine hKz.out _ _ (by first | exact hS | exact Below.trans hOn (Below.mono hnew (Below.size hOn))) (fun hNext => ?_)
    clear hKz Kz hOn
    have hOn := hNext
    clear hNext
    try clear hnew
    try clear hS
    try simp only [Act.put]
    refine wpAnyH_take (i := 3) (v := ?_) (by simp only [List.getElem?_toArray, List.getElem?_cons_succ, List.getElem?_cons_zero]; rfl) (by kernel_rfl) (by kernel_rfl) (by kernel_rfl) (by exact fun _ _ _ h => h) (Or.inl ⟨by rfl, ?_⟩) hOn ?_
    rotate_left
    focus (intro W hSW; go_simp; try with_reducible rfl)
    try simp only [Act.put, List.setIfInBounds_toArray, List.set_cons_zero, List.set_cons_succ]
    refine wpAnyH_take (i := 4) (v := ?_) (by simp only [List.getElem?_toArray, List.getElem?_cons_succ, List.getElem?_cons_zero]; rfl) (by kernel_rfl) (by kernel_rfl) (by kernel_rfl) (by exact fun _ _ _ h => h) (Or.inl ⟨by rfl, ?_⟩) hOn ?_
    rotate_left
    focus (intro W hSW; go_simp; try with_reducible rfl)
    try simp only [Act.put, List.setIfInBounds_toArray, List.set_cons_zero, List.set_cons_succ]
    refine wpAnyH_done (by kernel_rfl) ?_ _
    all_goals
      go_wp2_with fail
      refine ret_cell_tmp2 (c := CM) rfl rfl huA rfl hzA hres.out ?_
      exact hpost.out _ (hBz.out.trans (hOn.below (by have := hBz.out.size; omega) (fun k e => by omega)))
  · have ha0 := ha
    obtain ⟨⟨an, cn, av, cv, e0, hN, -, -, hV, -, -⟩, okN, okV⟩ := ha
    have hc := Lib.hid (fun W (h : Below w.heap.size w W) => show Calls Tryd.prog 25 #[va, .int .i64 q] W fun x w' => x = .returned (.bool false) ∧ Below W.heap.size W w' from by have := there_any va m W (ha0.below h (Nat.le_refl _)) q; rwa [decide_eq_false h1] at this)
    obtain ⟨N, hNl⟩ : ∃ N, N = m.ns.length := ⟨_, rfl⟩
    obtain ⟨V, hVl⟩ : ∃ V, V = m.vs.length := ⟨_, rfl⟩
    rw [← hNl, ← hVl] at e0
    obtain ⟨CM, hCM⟩ : ∃ CM : Array Value, CM = #[.slice an N cn, .slice av V cv] := ⟨_, rfl⟩
    rw [← hCM] at e0
    subst e0
    obtain ⟨a1, a2, hs2, hB⟩ := boxes2 w CM #[.slice none 0 0, .slice none 0 0] 28 28 _ rfl
    obtain ⟨w2, hw2⟩ : ∃ w2, w2 = (w.alloc (.cells CM 28)).alloc (.cells #[.slice none 0 0, .slice none 0 0] 28) := ⟨_, rfl⟩
    rw [← hw2] at a1 a2 hB
    have e10 : w2.cell? ⟨w.heap.size, 0, none⟩ = some (.slice an N cn) := by rw [cell_of_block a1, hCM]; rfl
    have e11 : w2.cell? ⟨w.heap.size, 1, none⟩ = some (.slice av V cv) := by rw [cell_of_block a1, hCM]; rfl
    have hzA : (Tryd.prog.info? 28).map (·.size) = some CM.size := by rw [hCM]; kernel_rfl
    have h1M : CM.all (·.oneCell') = true := by rw [hCM]; simp [Value.oneCell']
    have hss : (#[.slice none 0 0, .slice none 0 0] : Array Value).size = CM.size := by rw [hCM]; rfl
    have huA := Tryd.underlying28
    have e10x := e10
    rw [hw2] at e10x
    have e11x := e11
    rw [hw2] at e11x
    have hge := Lib.hid (fun W (h : Below w.heap.size w W) => (num_cells (H.below h)).2.2.2.2.2.2.2.2.2.2.1)
    have hpost : Hid (∀ W, Below w.heap.size w W → NPost ea m 0 11 w (.returned (.tuple #[.agg CM, .int .i64 0, .iface 137 (.pointer (some (ea 10)))])) W) := Lib.hid (fun W h => ⟨_, _, rfl, ha0.below h (Nat.le_refl _), .inr (.inl ⟨10, by decide, rfl, rfl⟩), h⟩)
    have hgl : 4 < w.heap.size := World.block_lt_of_cell? w _ (hge.out w (Below.refl _ _))
    replace hNl := Lib.hid hNl
    replace hVl := Lib.hid hVl
    replace hCM := Lib.hid hCM
    replace hw2 := Lib.hid hw2
    replace a1 := Lib.hid a1
    replace a2 := Lib.hid a2
    replace hB := Lib.hid hB
    replace hs2 := Lib.hid hs2
    clear ha0 hN hV okN okV H
    go_enter Tryd.func16, Tryd.ntmps16
    go_wp2_with ((with_reducible show wpList _ _ _ (Oper.mk _ (Op.load 28 (.tmp 3)) _ _ _ _ :: _) _ _); (try rw [← hw2.out]); refine wpList_load_row rfl 28 (.tmp 3) rfl w.heap.size CM _ rfl a1 huA rfl hzA ?_)
    (try rw [← hw2.out])
    with_reducible refine (hc.out w2 hB.out).mono ?_
    clear hc
    rintro x w3 ⟨rfl, hb3⟩
    replace e10 := (hb3.cell (World.block_lt_of_cell? w2 _ e10)).trans e10
    replace e11 := (hb3.cell (World.block_lt_of_cell? w2 _ e11)).trans e11
    replace a1 := Lib.hid ((hb3.block _ (block_lt a1.out)).trans a1.out)
    replace a2 := Lib.hid ((hb3.block _ (block_lt a2.out)).trans a2.out)
    have hB3 := Lib.hid (hB.out.trans (hb3.mono hB.out.size))
    clear hb3 hB e10x e11x
    generalize w3 = wz at *
    have hBz := hB3
    go_wp2_with fail
    have hd0 : Hid (Only (fun k => k = w.heap.size + 1) wz wz.drew) := Lib.hid ((Only.refl _ _).drew)
    have rlA : ∀ W : World, Only (fun k => k = w.heap.size + 1) wz W → W.heap[w.heap.size]? = some (.cells CM 28 (0, 0)) := fun W hW => hW.heap a1.out (by omega)
    have hgz := hge.out wz hBz.out
    have hcW : ∀ W : World, Only (fun k => k = w.heap.size + 1) wz W → W.cell? ⟨4, 0, none⟩ = some (.iface 137 (.pointer (some (ea 10)))) := fun W hW => (World.cell?_of_block (a := ⟨4, 0, none⟩) (hW.block _ (World.block_lt_of_cell? wz _ hgz) (by simp only at hgl ⊢; omega))).trans hgz
    replace a2 : Hid (wz.drew.heap[w.heap.size + 1]? = some (.cells #[.slice none 0 0, .slice none 0 0] 28 (0, 0))) := Lib.hid a2.out
    clear hgz e10 e11
    refine wp_region_held_drew (S := (Only (fun k => k = w.heap.size + 1) wz)) (by kernel_rfl) hd0.out (fun hOn => ?_)
    generalize World.drew wz = wd at *
    refine wpAnyH_take (i := 0) (v := Value.agg _) (by simp only [List.getElem?_toArray, List.getElem?_cons_zero]; rfl) (by kernel_rfl) (by kernel_rfl) (by kernel_rfl) (by exact fun _ _ _ h => h) (Or.inl ⟨by rfl, fun W hSW => yields_load_row _ _ rfl _ _ _ rfl (rlA W hSW) huA rfl hzA⟩) hOn ?_
    try simp only [Act.put, List.setIfInBounds_toArray, List.set_cons_zero, List.set_cons_succ]
    refine wpAnyH_take (i := 1) (v := ?_) (by simp only [List.getElem?_toArray, List.getElem?_cons_succ, List.getElem?_cons_zero]; rfl) (by kernel_rfl) (by kernel_rfl) (by kernel_rfl) (by exact fun _ _ _ h => h) (Or.inl ⟨by rfl, ?_⟩) hOn ?_
    rotate_left
    focus (intro W hSW; go_simp; try with_reducible rfl)
    try simp only [Act.put, List.setIfInBounds_toArray, List.set_cons_zero, List.set_cons_succ]
    refine wpAnyH_ready (rs := [2]) (by kernel_rfl) (by simp) ?_
    refine AllReadyH.cons (by simp only [List.getElem?_toArray, List.getElem?_cons_succ, List.getElem?_cons_zero]; rfl) (fun Kz hKz => ?_) AllReadyH.nil
    rw [if_pos (by rfl)]
    (with_reducible refine wp_store_rowK 28 (.tmp 6) (.tmp 24) rfl (w.heap.size + 1) #[.slice none 0 0, .slice none 0 0] CM rfl rfl a2 hzA hss h1M ?_)
    intro w9 hU9
    have hS := hOn.trans (Only.ofUpd (D := fun k => k = w.heap.size + 1) hU9.out rfl) (fun _ _ e => e)
    have hres := Lib.hid hU9.out.here
    refine hKz.out _ _ (by first | exact hS | exact Below.trans hOn (Below.mono hnew (Below.size hOn))) (fun hNext => ?_)
    clear hKz Kz hOn
    have hOn := hNext
    clear hNext
    try clear hnew
    try clear hS
    try simp only [Act.put]
    refine wpAnyH_take (i := 3) (v := ?_) (by simp only [List.getElem?_toArray, List.getElem?_cons_succ, List.getElem?_cons_zero]; rfl) (by kernel_rfl) (by kernel_rfl) (by kernel_rfl) (by exact fun _ _ _ h => h) (Or.inl ⟨by rfl, ?_⟩) hOn ?_
    rotate_left
    focus (intro W hSW; go_simp; try with_reducible rfl)
    try simp only [Act.put, List.setIfInBounds_toArray, List.set_cons_zero, List.set_cons_succ]
    refine wpAnyH_take (i := 4) (v := ?_) (by simp only [List.getElem?_toArray, List.getElem?_cons_succ, List.getElem?_cons_zero]; rfl) (by kernel_rfl) (by kernel_rfl) (by kernel_rfl) (by exact fun _ _ _ h => h) (Or.inl ⟨by rfl, ?_⟩) hOn ?_
    rotate_left
    focus (intro W hSW; go_simp; try with_reducible rfl)
    try simp only [Act.put, List.setIfInBounds_toArray, List.set_cons_zero, List.set_cons_succ]
    refine wpAnyH_done (by kernel_rfl) ?_ _
    all_goals
      go_wp2_with fail
      refine ret_cell_tmp2 (c := CM) rfl rfl huA rfl hzA hres.out ?_
      exact hpost.out _ (hBz.out.trans (hOn.below (by have := hBz.out.size; omega) (fun k e => by omega)))

set_option maxRecDepth 100000 in
set_option maxHeartbeats 2000000 in
theorem masked_state (va : Value) (m : Md) (w : World) (ha : ArgM w va m) (l1 : m.ns.length ≤ 1000) (l2 : m.vs.length ≤ 1000) (way : Int) (hw : way = 1 ∨ way = 2) (i : Nat) (hi : i < m.ns.length) (hk : m.ns[i].k = false) (ea : Nat → Addr) (H : Errs 137 errGs w ea) :
    Calls Tryd.prog 16 #[va, .int .i64 (i : Int), .int .i64 way] w (NPost ea m 0 13 w) := by
  rcases hw with rfl | rfl
  · have ha0 := ha
    obtain ⟨⟨an, cn, av, cv, e0, hN, -, -, hV, -, -⟩, okN, okV⟩ := ha
    have hc := Lib.hid (fun W (h : Below w.heap.size w W) => show Calls Tryd.prog 25 #[va, .int .i64 (i : Int)] W fun x w' => x = .returned (.bool true) ∧ Below W.heap.size W w' from by have := there_any va m W (ha0.below h (Nat.le_refl _)) (i : Int); rwa [decide_eq_true ⟨by omega, by omega⟩] at this)
    obtain ⟨N, hNl⟩ : ∃ N, N = m.ns.length := ⟨_, rfl⟩
    obtain ⟨V, hVl⟩ : ∃ V, V = m.vs.length := ⟨_, rfl⟩
    rw [← hNl, ← hVl] at e0
    obtain ⟨CM, hCM⟩ : ∃ CM : Array Value, CM = #[.slice an N cn, .slice av V cv] := ⟨_, rfl⟩
    rw [← hCM] at e0
    subst e0
    obtain ⟨a1, a2, hs2, hB⟩ := boxes2 w CM #[.slice none 0 0, .slice none 0 0] 28 28 _ rfl
    obtain ⟨w2, hw2⟩ : ∃ w2, w2 = (w.alloc (.cells CM 28)).alloc (.cells #[.slice none 0 0, .slice none 0 0] 28) := ⟨_, rfl⟩
    rw [← hw2] at a1 a2 hB
    have e10 : w2.cell? ⟨w.heap.size, 0, none⟩ = some (.slice an N cn) := by rw [cell_of_block a1, hCM]; rfl
    have e11 : w2.cell? ⟨w.heap.size, 1, none⟩ = some (.slice av V cv) := by rw [cell_of_block a1, hCM]; rfl
    obtain ⟨b, o, hab, hr⟩ := hN i hi
    subst hab
    have k39 : w2.cell? ⟨b, o + i * 40 + 39, none⟩ = some (.bool false) := (hB.cell (World.block_lt_of_cell? w _ (hr 39 _ (by rw [Nm.c39 (okN _ (List.getElem_mem hi)).f, hk])))).trans (hr 39 _ (by rw [Nm.c39 (okN _ (List.getElem_mem hi)).f, hk]))
    have hii : (i : Int) < (N : Int) := by rw [hNl]; omega
    have hzA : (Tryd.prog.info? 28).map (·.size) = some CM.size := by rw [hCM]; kernel_rfl
    have h1M : CM.all (·.oneCell') = true := by rw [hCM]; simp [Value.oneCell']
    have hss : (#[.slice none 0 0, .slice none 0 0] : Array Value).size = CM.size := by rw [hCM]; rfl
    have huA := Tryd.underlying28
    have e10x := e10
    rw [hw2] at e10x
    have e11x := e11
    rw [hw2] at e11x
    have k39x := k39
    rw [hw2] at k39x
    have hge := Lib.hid (fun W (h : Below w.heap.size w W) => (num_cells (H.below h)).2.2.2.2.2.2.2.2.2.2.2.2.1)
    have hpost : Hid (∀ W, Below w.heap.size w W → NPost ea m 0 13 w (.returned (.tuple #[.agg CM, .int .i64 0, .iface 137 (.pointer (some (ea 12)))])) W) := Lib.hid (fun W h => ⟨_, _, rfl, ha0.below h (Nat.le_refl _), .inr (.inl ⟨12, by decide, rfl, rfl⟩), h⟩)
    have hgl : 5 < w.heap.size := World.block_lt_of_cell? w _ (hge.out w (Below.refl _ _))
    replace hNl := Lib.hid hNl
    replace hVl := Lib.hid hVl
    replace hCM := Lib.hid hCM
    replace hw2 := Lib.hid hw2
    replace a1 := Lib.hid a1
    replace a2 := Lib.hid a2
    replace hB := Lib.hid hB
    replace hs2 := Lib.hid hs2
    clear ha0 hN hV okN okV H hr
    go_enter Tryd.func16, Tryd.ntmps16
    go_wp2_with ((with_reducible show wpList _ _ _ (Oper.mk _ (Op.load 28 (.tmp 3)) _ _ _ _ :: _) _ _); (try rw [← hw2.out]); refine wpList_load_row rfl 28 (.tmp 3) rfl w.heap.size CM _ rfl a1 huA rfl hzA ?_)
    (try rw [← hw2.out])
    with_reducible refine (hc.out w2 hB.out).mono ?_
    clear hc
    rintro x w3 ⟨rfl, hb3⟩
    replace e10 := (hb3.cell (World.block_lt_of_cell? w2 _ e10)).trans e10
    replace e11 := (hb3.cell (World.block_lt_of_cell? w2 _ e11)).trans e11
    replace k39 := (hb3.cell (World.block_lt_of_cell? w2 _ k39)).trans k39
    replace a1 := Lib.hid ((hb3.block _ (block_lt a1.out)).trans a1.out)
    replace a2 := Lib.hid ((hb3.block _ (block_lt a2.out)).trans a2.out)
    have hB3 := Lib.hid (hB.out.trans (hb3.mono hB.out.size))
    clear hb3 hB e10x e11x k39x
    generalize w3 = wz at *
    have hBz := hB3
    go_wp2_with fail
    have hd0 : Hid (Only (fun k => k = w.heap.size + 1) wz wz.drew) := Lib.hid ((Only.refl _ _).drew)
    have rlA : ∀ W : World, Only (fun k => k = w.heap.size + 1) wz W → W.heap[w.heap.size]? = some (.cells CM 28 (0, 0)) := fun W hW => hW.heap a1.out (by omega)
    have hgz := hge.out wz hBz.out
    have hcW : ∀ W : World, Only (fun k => k = w.heap.size + 1) wz W → W.cell? ⟨5, 0, none⟩ = some (.iface 137 (.pointer (some (ea 12)))) := fun W hW => (World.cell?_of_block (a := ⟨5, 0, none⟩) (hW.block _ (World.block_lt_of_cell? wz _ hgz) (by simp only at hgl ⊢; omega))).trans hgz
    replace a2 : Hid (wz.drew.heap[w.heap.size + 1]? = some (.cells #[.slice none 0 0, .slice none 0 0] 28 (0, 0))) := Lib.hid a2.out
    clear hgz e10 e11 k39
    refine wp_region_held_drew (S := (Only (fun k => k = w.heap.size + 1) wz)) (by kernel_rfl) hd0.out (fun hOn => ?_)
    generalize World.drew wz = wd at *
    refine wpAnyH_take (i := 0) (v := Value.agg _) (by simp only [List.getElem?_toArray, List.getElem?_cons_zero]; rfl) (by kernel_rfl) (by kernel_rfl) (by kernel_rfl) (by exact fun _ _ _ h => h) (Or.inl ⟨by rfl, fun W hSW => yields_load_row _ _ rfl _ _ _ rfl (rlA W hSW) huA rfl hzA⟩) hOn ?_
    try simp only [Act.put, List.setIfInBounds_toArray, List.set_cons_zero, List.set_cons_succ]
    refine wpAnyH_take (i := 1) (v := ?_) (by simp only [List.getElem?_toArray, List.getElem?_cons_succ, List.getElem?_cons_zero]; rfl) (by kernel_rfl) (by kernel_rfl) (by kernel_rfl) (by exact fun _ _ _ h => h) (Or.inl ⟨by rfl, ?_⟩) hOn ?_
    rotate_left
    focus (intro W hSW; go_simp; try with_reducible rfl)
    try simp only [Act.put, List.setIfInBounds_toArray, List.set_cons_zero, List.set_cons_succ]
    refine wpAnyH_ready (rs := [2]) (by kernel_rfl) (by simp) ?_
    refine AllReadyH.cons (by simp only [List.getElem?_toArray, List.getElem?_cons_succ, List.getElem?_cons_zero]; rfl) (fun Kz hKz => ?_) AllReadyH.nil
    rw [if_pos (by rfl)]
    (with_reducible refine wp_store_rowK 28 (.tmp 6) (.tmp 34) rfl (w.heap.size + 1) #[.slice none 0 0, .slice none 0 0] CM rfl rfl a2 hzA hss h1M ?_)
    intro w9 hU9
    have hS := hOn.trans (Only.ofUpd (D := fun k => k = w.heap.size + 1) hU9.out rfl) (fun _ _ e => e)
    have hres := Lib.hid hU9.out.here
    refine hKz.out _ _ (by first | exact hS | exact Below.trans hOn (Below.mono hnew (Below.size hOn))) (fun hNext => ?_)
    clear hKz Kz hOn
    have hOn := hNext
    clear hNext
    try clear hnew
    try clear hS
    try simp only [Act.put]
    refine wpAnyH_take (i := 3) (v := ?_) (by simp only [List.getElem?_toArray, List.getElem?_cons_succ, List.getElem?_cons_zero]; rfl) (by kernel_rfl) (by kernel_rfl) (by kernel_rfl) (by exact fun _ _ _ h => h) (Or.inl ⟨by rfl, ?_⟩) hOn ?_
    rotate_left
    focus (intro W hSW; go_simp; try with_reducible rfl)
    try simp only [Act.put, List.setIfInBounds_toArray, List.set_cons_zero, List.set_cons_succ]
    refine wpAnyH_take (i := 4) (v := ?_) (by simp only [List.getElem?_toArray, List.getElem?_cons_succ, List.getElem?_cons_zero]; rfl) (by kernel_rfl) (by kernel_rfl) (by kernel_rfl) (by exact fun _ _ _ h => h) (Or.inl ⟨by rfl, ?_⟩) hOn ?_
    rotate_left
    focus (intro W hSW; go_simp; try with_reducible rfl)
    try simp only [Act.put, List.setIfInBounds_toArray, List.set_cons_zero, List.set_cons_succ]
    refine wpAnyH_done (by kernel_rfl) ?_ _
    all_goals
      go_wp2_with fail
      refine ret_cell_tmp2 (c := CM) rfl rfl huA rfl hzA hres.out ?_
      exact hpost.out _ (hBz.out.trans (hOn.below (by have := hBz.out.size; omega) (fun k e => by omega)))
  · have ha0 := ha
    obtain ⟨⟨an, cn, av, cv, e0, hN, -, -, hV, -, -⟩, okN, okV⟩ := ha
    have hc := Lib.hid (fun W (h : Below w.heap.size w W) => show Calls Tryd.prog 25 #[va, .int .i64 (i : Int)] W fun x w' => x = .returned (.bool true) ∧ Below W.heap.size W w' from by have := there_any va m W (ha0.below h (Nat.le_refl _)) (i : Int); rwa [decide_eq_true ⟨by omega, by omega⟩] at this)
    obtain ⟨N, hNl⟩ : ∃ N, N = m.ns.length := ⟨_, rfl⟩
    obtain ⟨V, hVl⟩ : ∃ V, V = m.vs.length := ⟨_, rfl⟩
    rw [← hNl, ← hVl] at e0
    obtain ⟨CM, hCM⟩ : ∃ CM : Array Value, CM = #[.slice an N cn, .slice av V cv] := ⟨_, rfl⟩
    rw [← hCM] at e0
    subst e0
    obtain ⟨a1, a2, hs2, hB⟩ := boxes2 w CM #[.slice none 0 0, .slice none 0 0] 28 28 _ rfl
    obtain ⟨w2, hw2⟩ : ∃ w2, w2 = (w.alloc (.cells CM 28)).alloc (.cells #[.slice none 0 0, .slice none 0 0] 28) := ⟨_, rfl⟩
    rw [← hw2] at a1 a2 hB
    have e10 : w2.cell? ⟨w.heap.size, 0, none⟩ = some (.slice an N cn) := by rw [cell_of_block a1, hCM]; rfl
    have e11 : w2.cell? ⟨w.heap.size, 1, none⟩ = some (.slice av V cv) := by rw [cell_of_block a1, hCM]; rfl
    obtain ⟨b, o, hab, hr⟩ := hN i hi
    subst hab
    have k39 : w2.cell? ⟨b, o + i * 40 + 39, none⟩ = some (.bool false) := (hB.cell (World.block_lt_of_cell? w _ (hr 39 _ (by rw [Nm.c39 (okN _ (List.getElem_mem hi)).f, hk])))).trans (hr 39 _ (by rw [Nm.c39 (okN _ (List.getElem_mem hi)).f, hk]))
    have hii : (i : Int) < (N : Int) := by rw [hNl]; omega
    have hzA : (Tryd.prog.info? 28).map (·.size) = some CM.size := by rw [hCM]; kernel_rfl
    have h1M : CM.all (·.oneCell') = true := by rw [hCM]; simp [Value.oneCell']
    have hss : (#[.slice none 0 0, .slice none 0 0] : Array Value).size = CM.size := by rw [hCM]; rfl
    have huA := Tryd.underlying28
    have e10x := e10
    rw [hw2] at e10x
    have e11x := e11
    rw [hw2] at e11x
    have k39x := k39
    rw [hw2] at k39x
    have hge := Lib.hid (fun W (h : Below w.heap.size w W) => (num_cells (H.below h)).2.2.2.2.2.2.2.2.2.2.2.2.1)
    have hpost : Hid (∀ W, Below w.heap.size w W → NPost ea m 0 13 w (.returned (.tuple #[.agg CM, .int .i64 0, .iface 137 (.pointer (some (ea 12)))])) W) := Lib.hid (fun W h => ⟨_, _, rfl, ha0.below h (Nat.le_refl _), .inr (.inl ⟨12, by decide, rfl, rfl⟩), h⟩)
    have hgl : 5 < w.heap.size := World.block_lt_of_cell? w _ (hge.out w (Below.refl _ _))
    replace hNl := Lib.hid hNl
    replace hVl := Lib.hid hVl
    replace hCM := Lib.hid hCM
    replace hw2 := Lib.hid hw2
    replace a1 := Lib.hid a1
    replace a2 := Lib.hid a2
    replace hB := Lib.hid hB
    replace hs2 := Lib.hid hs2
    clear ha0 hN hV okN okV H hr
    go_enter Tryd.func16, Tryd.ntmps16
    go_wp2_with ((with_reducible show wpList _ _ _ (Oper.mk _ (Op.load 28 (.tmp 3)) _ _ _ _ :: _) _ _); (try rw [← hw2.out]); refine wpList_load_row rfl 28 (.tmp 3) rfl w.heap.size CM _ rfl a1 huA rfl hzA ?_)
    (try rw [← hw2.out])
    with_reducible refine (hc.out w2 hB.out).mono ?_
    clear hc
    rintro x w3 ⟨rfl, hb3⟩
    replace e10 := (hb3.cell (World.block_lt_of_cell? w2 _ e10)).trans e10
    replace e11 := (hb3.cell (World.block_lt_of_cell? w2 _ e11)).trans e11
    replace k39 := (hb3.cell (World.block_lt_of_cell? w2 _ k39)).trans k39
    replace a1 := Lib.hid ((hb3.block _ (block_lt a1.out)).trans a1.out)
    replace a2 := Lib.hid ((hb3.block _ (block_lt a2.out)).trans a2.out)
    have hB3 := Lib.hid (hB.out.trans (hb3.mono hB.out.size))
    clear hb3 hB e10x e11x k39x
    generalize w3 = wz at *
    have hBz := hB3
    go_wp2_with fail
    have hd0 : Hid (Only (fun k => k = w.heap.size + 1) wz wz.drew) := Lib.hid ((Only.refl _ _).drew)
    have rlA : ∀ W : World, Only (fun k => k = w.heap.size + 1) wz W → W.heap[w.heap.size]? = some (.cells CM 28 (0, 0)) := fun W hW => hW.heap a1.out (by omega)
    have hgz := hge.out wz hBz.out
    have hcW : ∀ W : World, Only (fun k => k = w.heap.size + 1) wz W → W.cell? ⟨5, 0, none⟩ = some (.iface 137 (.pointer (some (ea 12)))) := fun W hW => (World.cell?_of_block (a := ⟨5, 0, none⟩) (hW.block _ (World.block_lt_of_cell? wz _ hgz) (by simp only at hgl ⊢; omega))).trans hgz
    replace a2 : Hid (wz.drew.heap[w.heap.size + 1]? = some (.cells #[.slice none 0 0, .slice none 0 0] 28 (0, 0))) := Lib.hid a2.out
    clear hgz e10 e11 k39
    refine wp_region_held_drew (S := (Only (fun k => k = w.heap.size + 1) wz)) (by kernel_rfl) hd0.out (fun hOn => ?_)
    generalize World.drew wz = wd at *
    refine wpAnyH_take (i := 0) (v := Value.agg _) (by simp only [List.getElem?_toArray, List.getElem?_cons_zero]; rfl) (by kernel_rfl) (by kernel_rfl) (by kernel_rfl) (by exact fun _ _ _ h => h) (Or.inl ⟨by rfl, fun W hSW => yields_load_row _ _ rfl _ _ _ rfl (rlA W hSW) huA rfl hzA⟩) hOn ?_
    try simp only [Act.put, List.setIfInBounds_toArray, List.set_cons_zero, List.set_cons_succ]
    refine wpAnyH_take (i := 1) (v := ?_) (by simp only [List.getElem?_toArray, List.getElem?_cons_succ, List.getElem?_cons_zero]; rfl) (by kernel_rfl) (by kernel_rfl) (by kernel_rfl) (by exact fun _ _ _ h => h) (Or.inl ⟨by rfl, ?_⟩) hOn ?_
    rotate_left
    focus (intro W hSW; go_simp; try with_reducible rfl)
    try simp only [Act.put, List.setIfInBounds_toArray, List.set_cons_zero, List.set_cons_succ]
    refine wpAnyH_ready (rs := [2]) (by kernel_rfl) (by simp) ?_
    refine AllReadyH.cons (by simp only [List.getElem?_toArray, List.getElem?_cons_succ, List.getElem?_cons_zero]; rfl) (fun Kz hKz => ?_) AllReadyH.nil
    rw [if_pos (by rfl)]
    (with_reducible refine wp_store_rowK 28 (.tmp 6) (.tmp 34) rfl (w.heap.size + 1) #[.slice none 0 0, .slice none 0 0] CM rfl rfl a2 hzA hss h1M ?_)
    intro w9 hU9
    have hS := hOn.trans (Only.ofUpd (D := fun k => k = w.heap.size + 1) hU9.out rfl) (fun _ _ e => e)
    have hres := Lib.hid hU9.out.here
    refine hKz.out _ _ (by first | exact hS | exact Below.trans hOn (Below.mono hnew (Below.size hOn))) (fun hNext => ?_)
    clear hKz Kz hOn
    have hOn := hNext
    clear hNext
    try clear hnew
    try clear hS
    try simp only [Act.put]
    refine wpAnyH_take (i := 3) (v := ?_) (by simp only [List.getElem?_toArray, List.getElem?_cons_succ, List.getElem?_cons_zero]; rfl) (by kernel_rfl) (by kernel_rfl) (by kernel_rfl) (by exact fun _ _ _ h => h) (Or.inl ⟨by rfl, ?_⟩) hOn ?_
    rotate_left
    focus (intro W hSW; go_simp; try with_reducible rfl)
    try simp only [Act.put, List.setIfInBounds_toArray, List.set_cons_zero, List.set_cons_succ]
    refine wpAnyH_take (i := 4) (v := ?_) (by simp only [List.getElem?_toArray, List.getElem?_cons_succ, List.getElem?_cons_zero]; rfl) (by kernel_rfl) (by kernel_rfl) (by kernel_rfl) (by exact fun _ _ _ h => h) (Or.inl ⟨by rfl, ?_⟩) hOn ?_
    rotate_left
    focus (intro W hSW; go_simp; try with_reducible rfl)
    try simp only [Act.put, List.setIfInBounds_toArray, List.set_cons_zero, List.set_cons_succ]
    refine wpAnyH_done (by kernel_rfl) ?_ _
    all_goals
      go_wp2_with fail
      refine ret_cell_tmp2 (c := CM) rfl rfl huA rfl hzA hres.out ?_
      exact hpost.out _ (hBz.out.trans (hOn.below (by have := hBz.out.size; omega) (fun k e => by omega)))

set_option maxRecDepth 100000 in
set_option maxHeartbeats 2000000 in
theorem masked_budget (va : Value) (m : Md) (w : World) (ha : ArgM w va m) (l1 : m.ns.length ≤ 1000) (l2 : m.vs.length ≤ 1000) (i : Nat) (hi : i < m.ns.length) (hk : m.ns[i].k = true) (hpn : ∀ x ∈ m.ns, 0 ≤ x.p.n ∧ x.p.n ≤ 1000) (hL : mLeft m (i : Int) = 0) (ea : Nat → Addr) (H : Errs 137 errGs w ea) :
    Calls Tryd.prog 16 #[va, .int .i64 (i : Int), .int .i64 2] w (NPost ea m 0 18 w) := by
  have ha0 := ha
  obtain ⟨⟨an, cn, av, cv, e0, hN, -, -, hV, -, -⟩, okN, okV⟩ := ha
  have hc2 := Lib.hid (fun W (h : Below w.heap.size w W) => show Calls Tryd.prog 11 #[va, .int .i64 (i : Int)] W fun x w' => x = .returned (.int .i64 0) ∧ Below W.heap.size W w' from by have := mleft_any va m W (ha0.below h (Nat.le_refl _)) l1 l2 (i : Int) hpn; rwa [hL] at this)
  have hc := Lib.hid (fun W (h : Below w.heap.size w W) => show Calls Tryd.prog 25 #[va, .int .i64 (i : Int)] W fun x w' => x = .returned (.bool true) ∧ Below W.heap.size W w' from by have := there_any va m W (ha0.below h (Nat.le_refl _)) (i : Int); rwa [decide_eq_true ⟨by omega, by omega⟩] at this)
  obtain ⟨N, hNl⟩ : ∃ N, N = m.ns.length := ⟨_, rfl⟩
  obtain ⟨V, hVl⟩ : ∃ V, V = m.vs.length := ⟨_, rfl⟩
  rw [← hNl, ← hVl] at e0
  obtain ⟨CM, hCM⟩ : ∃ CM : Array Value, CM = #[.slice an N cn, .slice av V cv] := ⟨_, rfl⟩
  rw [← hCM] at e0
  subst e0
  obtain ⟨a1, a2, hs2, hB⟩ := boxes2 w CM #[.slice none 0 0, .slice none 0 0] 28 28 _ rfl
  obtain ⟨w2, hw2⟩ : ∃ w2, w2 = (w.alloc (.cells CM 28)).alloc (.cells #[.slice none 0 0, .slice none 0 0] 28) := ⟨_, rfl⟩
  rw [← hw2] at a1 a2 hB
  have e10 : w2.cell? ⟨w.heap.size, 0, none⟩ = some (.slice an N cn) := by rw [cell_of_block a1, hCM]; rfl
  have e11 : w2.cell? ⟨w.heap.size, 1, none⟩ = some (.slice av V cv) := by rw [cell_of_block a1, hCM]; rfl
  obtain ⟨b, o, hab, hr⟩ := hN i hi
  subst hab
  have k39 : w2.cell? ⟨b, o + i * 40 + 39, none⟩ = some (.bool true) := (hB.cell (World.block_lt_of_cell? w _ (hr 39 _ (by rw [Nm.c39 (okN _ (List.getElem_mem hi)).f, hk])))).trans (hr 39 _ (by rw [Nm.c39 (okN _ (List.getElem_mem hi)).f, hk]))
  have hii : (i : Int) < (N : Int) := by rw [hNl]; omega
  have hzA : (Tryd.prog.info? 28).map (·.size) = some CM.size := by rw [hCM]; kernel_rfl
  have h1M : CM.all (·.oneCell') = true := by rw [hCM]; simp [Value.oneCell']
  have hss : (#[.slice none 0 0, .slice none 0 0] : Array Value).size = CM.size := by rw [hCM]; rfl
  have huA := Tryd.underlying28
  have e10x := e10
  rw [hw2] at e10x
  have e11x := e11
  rw [hw2] at e11x
  have k39x := k39
  rw [hw2] at k39x
  have hge := Lib.hid (fun W (h : Below w.heap.size w W) => (num_cells (H.below h)).2.2.2.2.2.2.2.2.2.2.2.2.2.2.2.2.2.1)
  have hpost : Hid (∀ W, Below w.heap.size w W → NPost ea m 0 18 w (.returned (.tuple #[.agg CM, .int .i64 0, .iface 137 (.pointer (some (ea 17)))])) W) := Lib.hid (fun W h => ⟨_, _, rfl, ha0.below h (Nat.le_refl _), .inr (.inl ⟨17, by decide, rfl, rfl⟩), h⟩)
  have hgl : 7 < w.heap.size := World.block_lt_of_cell? w _ (hge.out w (Below.refl _ _))
  replace hNl := Lib.hid hNl
  replace hVl := Lib.hid hVl
  replace hCM := Lib.hid hCM
  replace hw2 := Lib.hid hw2
  replace a1 := Lib.hid a1
  replace a2 := Lib.hid a2
  replace hB := Lib.hid hB
  replace hs2 := Lib.hid hs2
  clear ha0 hN hV okN okV H hr hpn hL
  go_enter Tryd.func16, Tryd.ntmps16
  go_wp2_with ((with_reducible show wpList _ _ _ (Oper.mk _ (Op.load 28 (.tmp 3)) _ _ _ _ :: _) _ _); (try rw [← hw2.out]); refine wpList_load_row rfl 28 (.tmp 3) rfl w.heap.size CM _ rfl a1 huA rfl hzA ?_)
  (try rw [← hw2.out])
  with_reducible refine (hc.out w2 hB.out).mono ?_
  clear hc
  rintro x w3 ⟨rfl, hb3⟩
  replace e10 := (hb3.cell (World.block_lt_of_cell? w2 _ e10)).trans e10
  replace e11 := (hb3.cell (World.block_lt_of_cell? w2 _ e11)).trans e11
  replace k39 := (hb3.cell (World.block_lt_of_cell? w2 _ k39)).trans k39
  replace a1 := Lib.hid ((hb3.block _ (block_lt a1.out)).trans a1.out)
  replace a2 := Lib.hid ((hb3.block _ (block_lt a2.out)).trans a2.out)
  have hB3 := Lib.hid (hB.out.trans (hb3.mono hB.out.size))
  clear hb3 hB e10x e11x k39x
  go_wp2_with ((with_reducible show wpList _ _ _ (Oper.mk _ (Op.load 28 (.tmp 3)) _ _ _ _ :: _) _ _); (try rw [← hw2.out]); refine wpList_load_row rfl 28 (.tmp 3) rfl w.heap.size CM _ rfl a1 huA rfl hzA ?_)
  rw [hCM.out] at hc2
  with_reducible refine (hc2.out w3 hB3.out).mono ?_
  clear hc2
  rintro x w4 ⟨rfl, hb4⟩
  replace e10 := (hb4.cell (World.block_lt_of_cell? w3 _ e10)).trans e10
  replace e11 := (hb4.cell (World.block_lt_of_cell? w3 _ e11)).trans e11
  replace k39 := (hb4.cell (World.block_lt_of_cell? w3 _ k39)).trans k39
  replace a1 := Lib.hid ((hb4.block _ (block_lt a1.out)).trans a1.out)
  replace a2 := Lib.hid ((hb4.block _ (block_lt a2.out)).trans a2.out)
  have hB4 := Lib.hid (hB3.out.trans (hb4.mono hB3.out.size))
  clear hb4 hB3
  generalize w4 = wz at *
  have hBz := hB4
  go_wp2_with fail
  have hd0 : Hid (Only (fun k => k = w.heap.size + 1) wz wz.drew) := Lib.hid ((Only.refl _ _).drew)
  have rlA : ∀ W : World, Only (fun k => k = w.heap.size + 1) wz W → W.heap[w.heap.size]? = some (.cells CM 28 (0, 0)) := fun W hW => hW.heap a1.out (by omega)
  have hgz := hge.out wz hBz.out
  have hcW : ∀ W : World, Only (fun k => k = w.heap.size + 1) wz W → W.cell? ⟨7, 0, none⟩ = some (.iface 137 (.pointer (some (ea 17)))) := fun W hW => (World.cell?_of_block (a := ⟨7, 0, none⟩) (hW.block _ (World.block_lt_of_cell? wz _ hgz) (by simp only at hgl ⊢; omega))).trans hgz
  replace a2 : Hid (wz.drew.heap[w.heap.size + 1]? = some (.cells #[.slice none 0 0, .slice none 0 0] 28 (0, 0))) := Lib.hid a2.out
  clear hgz e10 e11 k39
  refine wp_region_held_drew (S := (Only (fun k => k = w.heap.size + 1) wz)) (by kernel_rfl) hd0.out (fun hOn => ?_)
  generalize World.drew wz = wd at *
  refine wpAnyH_take (i := 0) (v := Value.agg _) (by simp only [List.getElem?_toArray, List.getElem?_cons_zero]; rfl) (by kernel_rfl) (by kernel_rfl) (by kernel_rfl) (by exact fun _ _ _ h => h) (Or.inl ⟨by rfl, fun W hSW => yields_load_row _ _ rfl _ _ _ rfl (rlA W hSW) huA rfl hzA⟩) hOn ?_
  try simp only [Act.put, List.setIfInBounds_toArray, List.set_cons_zero, List.set_cons_succ]
  refine wpAnyH_take (i := 1) (v := ?_) (by simp only [List.getElem?_toArray, List.getElem?_cons_succ, List.getElem?_cons_zero]; rfl) (by kernel_rfl) (by kernel_rfl) (by kernel_rfl) (by exact fun _ _ _ h => h) (Or.inl ⟨by rfl, ?_⟩) hOn ?_
  rotate_left
  focus (intro W hSW; go_simp; try with_reducible rfl)
  try simp only [Act.put, List.setIfInBounds_toArray, List.set_cons_zero, List.set_cons_succ]
  refine wpAnyH_ready (rs := [2]) (by kernel_rfl) (by simp) ?_
  refine AllReadyH.cons (by simp only [List.getElem?_toArray, List.getElem?_cons_succ, List.getElem?_cons_zero]; rfl) (fun Kz hKz => ?_) AllReadyH.nil
  rw [if_pos (by rfl)]
  (with_reducible refine wp_store_rowK 28 (.tmp 6) (.tmp 45) rfl (w.heap.size + 1) #[.slice none 0 0, .slice none 0 0] CM rfl rfl a2 hzA hss h1M ?_)
  intro w9 hU9
  have hS := hOn.trans (Only.ofUpd (D := fun k => k = w.heap.size + 1) hU9.out rfl) (fun _ _ e => e)
  have hres := Lib.hid hU9.out.here
  refine hKz.out _ _ (by first | exact hS | exact Below.trans hOn (Below.mono hnew (Below.size hOn))) (fun hNext => ?_)
  clear hKz Kz hOn
  have hOn := hNext
  clear hNext
  try clear hnew
  try clear hS
  try simp only [Act.put]
  refine wpAnyH_take (i := 3) (v := ?_) (by simp only [List.getElem?_toArray, List.getElem?_cons_succ, List.getElem?_cons_zero]; rfl) (by kernel_rfl) (by kernel_rfl) (by kernel_rfl) (by exact fun _ _ _ h => h) (Or.inl ⟨by rfl, ?_⟩) hOn ?_
  rotate_left
  focus (intro W hSW; go_simp; try with_reducible rfl)
  try simp only [Act.put, List.setIfInBounds_toArray, List.set_cons_zero, List.set_cons_succ]
  refine wpAnyH_take (i := 4) (v := ?_) (by simp only [List.getElem?_toArray, List.getElem?_cons_succ, List.getElem?_cons_zero]; rfl) (by kernel_rfl) (by kernel_rfl) (by kernel_rfl) (by exact fun _ _ _ h => h) (Or.inl ⟨by rfl, ?_⟩) hOn ?_
  rotate_left
  focus (intro W hSW; go_simp; try with_reducible rfl)
  try simp only [Act.put, List.setIfInBounds_toArray, List.set_cons_zero, List.set_cons_succ]
  refine wpAnyH_done (by kernel_rfl) ?_ _
  all_goals
    go_wp2_with fail
    refine ret_cell_tmp2 (c := CM) rfl rfl huA rfl hzA hres.out ?_
    exact hpost.out _ (hBz.out.trans (hOn.below (by have := hBz.out.size; omega) (fun k e => by omega)))

set_option maxRecDepth 100000 in
set_option maxHeartbeats 2000000 in
theorem mjudged_none (va : Value) (m : Md) (w : World) (ha : ArgM w va m) (l1 : m.ns.length ≤ 1000) (l2 : m.vs.length ≤ 1000) (q v : Int) (h1 : q < 0 ∨ (m.vs.length : Int) ≤ q) (ea : Nat → Addr) (H : Errs 137 errGs w ea) :
    Calls Tryd.prog 21 #[va, .int .i64 q, .int .i64 v] w (KPost ea m 11 w) := by
  have ha0 := ha
  obtain ⟨⟨an, cn, av, cv, e0, hN, -, -, hV, -, -⟩, okN, okV⟩ := ha
  obtain ⟨N, hNl⟩ : ∃ N, N = m.ns.length := ⟨_, rfl⟩
  obtain ⟨V, hVl⟩ : ∃ V, V = m.vs.length := ⟨_, rfl⟩
  rw [← hNl, ← hVl] at e0
  obtain ⟨CM, hCM⟩ : ∃ CM : Array Value, CM = #[.slice an N cn, .slice av V cv] := ⟨_, rfl⟩
  rw [← hCM] at e0
  subst e0
  obtain ⟨a1, a2, hs2, hB⟩ := boxes2 w CM #[.slice none 0 0, .slice none 0 0] 28 28 _ rfl
  obtain ⟨w2, hw2⟩ : ∃ w2, w2 = (w.alloc (.cells CM 28)).alloc (.cells #[.slice none 0 0, .slice none 0 0] 28) := ⟨_, rfl⟩
  rw [← hw2] at a1 a2 hB
  have e10 : w2.cell? ⟨w.heap.size, 0, none⟩ = some (.slice an N cn) := by rw [cell_of_block a1, hCM]; rfl
  have e11 : w2.cell? ⟨w.heap.size, 1, none⟩ = some (.slice av V cv) := by rw [cell_of_block a1, hCM]; rfl
  have t1 : q < 0 ∨ (¬ q < 0 ∧ (V : Int) ≤ q) := by rw [hVl]; omega
  clear h1
  rcases t1 with t1 | ⟨t0, t1⟩
  · have hzA : (Tryd.prog.info? 28).map (·.size) = some CM.size := by rw [hCM]; kernel_rfl
    have h1M : CM.all (·.oneCell') = true := by rw [hCM]; simp [Value.oneCell']
    have hss : (#[.slice none 0 0, .slice none 0 0] : Array Value).size = CM.size := by rw [hCM]; rfl
    have huA := Tryd.underlying28
    have e10x := e10
    rw [hw2] at e10x
    have e11x := e11
    rw [hw2] at e11x
    have hge := Lib.hid (fun W (h : Below w.heap.size w W) => (num_cells (H.below h)).2.2.2.2.2.2.2.2.2.2.1)
    have hpost : Hid (∀ W, Below w.heap.size w W → KPost ea m 11 w (.returned (.tuple #[.agg CM, .iface 137 (.pointer (some (ea 10)))])) W) := Lib.hid (fun W h => ⟨_, _, rfl, ha0.below h (Nat.le_refl _), .inr (.inl ⟨10, by decide, rfl, rfl⟩), h⟩)
    have hgl : 4 < w.heap.size := World.block_lt_of_cell? w _ (hge.out w (Below.refl _ _))
    replace hNl := Lib.hid hNl
    replace hVl := Lib.hid hVl
    replace hCM := Lib.hid hCM
    replace hw2 := Lib.hid hw2
    replace a1 := Lib.hid a1
    replace a2 := Lib.hid a2
    replace hB := Lib.hid hB
    replace hs2 := Lib.hid hs2
    clear ha0 hN hV okN okV H
    go_enter Tryd.func21, Tryd.ntmps21
    go_wp2_with fail
    rw [← hw2.out]
    generalize w2 = wz at *
    have hBz := hB
    clear e10x e11x
    have hd0 : Hid (Only (fun k => k = w.heap.size + 1) wz wz.drew) := Lib.hid ((Only.refl _ _).drew)
    have rlA : ∀ W : World, Only (fun k => k = w.heap.size + 1) wz W → W.heap[w.heap.size]? = some (.cells CM 28 (0, 0)) := fun W hW => hW.heap a1.out (by omega)
    have hgz := hge.out wz hBz.out
    have hcW : ∀ W : World, Only (fun k => k = w.heap.size + 1) wz W → W.cell? ⟨4, 0, none⟩ = some (.iface 137 (.pointer (some (ea 10)))) := fun W hW => (World.cell?_of_block (a := ⟨4, 0, none⟩) (hW.block _ (World.block_lt_of_cell? wz _ hgz) (by simp only at hgl ⊢; omega))).trans hgz
    replace a2 : Hid (wz.drew.heap[w.heap.size + 1]? = some (.cells #[.slice none 0 0, .slice none 0 0] 28 (0, 0))) := Lib.hid a2.out
    clear hgz e10 e11
    refine wp_region_held_drew (S := (Only (fun k => k = w.heap.size + 1) wz)) (by kernel_rfl) hd0.out (fun hOn => ?_)
    generalize World.drew wz = wd at *
    refine wpAnyH_take (i := 0) (v := Value.agg _) (by simp only [List.getElem?_toArray, List.getElem?_cons_zero]; rfl) (by kernel_rfl) (by kernel_rfl) (by kernel_rfl) (by exact fun _ _ _ h => h) (Or.inl ⟨by rfl, fun W hSW => yields_load_row _ _ rfl _ _ _ rfl (rlA W hSW) huA rfl hzA⟩) hOn ?_
    try simp only [Act.put, List.setIfInBounds_toArray, List.set_cons_zero, List.set_cons_succ]
    refine wpAnyH_take (i := 1) (v := ?_) (by simp only [List.getElem?_toArray, List.getElem?_cons_succ, List.getElem?_cons_zero]; rfl) (by kernel_rfl) (by kernel_rfl) (by kernel_rfl) (by exact fun _ _ _ h => h) (Or.inl ⟨by rfl, ?_⟩) hOn ?_
    rotate_left
    focus (intro W hSW; go_simp; try with_reducible rfl)
    try simp only [Act.put, List.setIfInBounds_toArray, List.set_cons_zero, List.set_cons_succ]
    refine wpAnyH_ready (rs := [2]) (by kernel_rfl) (by simp) ?_
    refine AllReadyH.cons (by simp only [List.getElem?_toArray, List.getElem?_cons_succ, List.getElem?_cons_zero]; rfl) (fun Kz hKz => ?_) AllReadyH.nil
    rw [if_pos (by rfl)]
    (with_reducible refine wp_store_rowK 28 (.tmp 6) (.tmp 19) rfl (w.heap.size + 1) #[.slice none 0 0, .slice none 0 0] CM rfl rfl a2 hzA hss h1M ?_)
    intro w9 hU9
    have hS := hOn.trans (Only.ofUpd (D := fun k => k = w.heap.size + 1) hU9.out rfl) (fun _ _ e => e)
    have hres := Lib.hid hU9.out.here
    refine hKz.out _ _ (by first | exact hS | exact Below.trans hOn (Below.mono hnew (Below.size hOn))) (fun hNext => ?_)
    clear hKz Kz hOn
    have hOn := hNext
    clear hNext
    try clear hnew
    try clear hS
    try simp only [Act.put]
    refine wpAnyH_take (i := 3) (v := ?_) (by simp only [List.getElem?_toArray, List.getElem?_cons_succ, List.getElem?_cons_zero]; rfl) (by kernel_rfl) (by kernel_rfl) (by kernel_rfl) (by exact fun _ _ _ h => h) (Or.inl ⟨by rfl, ?_⟩) hOn ?_
    rotate_left
    focus (intro W hSW; go_simp; try with_reducible rfl)
    try simp only [Act.put, List.setIfInBounds_toArray, List.set_cons_zero, List.set_cons_succ]
    refine wpAnyH_done (by kernel_rfl) ?_ _
    all_goals
      go_wp2_with fail
      refine ret_cell_tmpB (c := CM) rfl rfl huA rfl hzA hres.out ?_
      exact hpost.out _ (hBz.out.trans (hOn.below (by have := hBz.out.size; omega) (fun k e => by omega)))

  · have hzA : (Tryd.prog.info? 28).map (·.size) = some CM.size := by rw [hCM]; kernel_rfl
    have h1M : CM.all (·.oneCell') = true := by rw [hCM]; simp [Value.oneCell']
    have hss : (#[.slice none 0 0, .slice none 0 0] : Array Value).size = CM.size := by rw [hCM]; rfl
    have huA := Tryd.underlying28
    have e10x := e10
    rw [hw2] at e10x
    have e11x := e11
    rw [hw2] at e11x
    have hge := Lib.hid (fun W (h : Below w.heap.size w W) => (num_cells (H.below h)).2.2.2.2.2.2.2.2.2.2.1)
    have hpost : Hid (∀ W, Below w.heap.size w W → KPost ea m 11 w (.returned (.tuple #[.agg CM, .iface 137 (.pointer (some (ea 10)))])) W) := Lib.hid (fun W h => ⟨_, _, rfl, ha0.below h (Nat.le_refl _), .inr (.inl ⟨10, by decide, rfl, rfl⟩), h⟩)
    have hgl : 4 < w.heap.size := World.block_lt_of_cell? w _ (hge.out w (Below.refl _ _))
    replace hNl := Lib.hid hNl
    replace hVl := Lib.hid hVl
    replace hCM := Lib.hid hCM
    replace hw2 := Lib.hid hw2
    replace a1 := Lib.hid a1
    replace a2 := Lib.hid a2
    replace hB := Lib.hid hB
    replace hs2 := Lib.hid hs2
    clear ha0 hN hV okN okV H
    go_enter Tryd.func21, Tryd.ntmps21
    go_wp2_with fail
    rw [← hw2.out]
    generalize w2 = wz at *
    have hBz := hB
    clear e10x e11x
    have hd0 : Hid (Only (fun k => k = w.heap.size + 1) wz wz.drew) := Lib.hid ((Only.refl _ _).drew)
    have rlA : ∀ W : World, Only (fun k => k = w.heap.size + 1) wz W → W.heap[w.heap.size]? = some (.cells CM 28 (0, 0)) := fun W hW => hW.heap a1.out (by omega)
    have hgz := hge.out wz hBz.out
    have hcW : ∀ W : World, Only (fun k => k = w.heap.size + 1) wz W → W.cell? ⟨4, 0, none⟩ = some (.iface 137 (.pointer (some (ea 10)))) := fun W hW => (World.cell?_of_block (a := ⟨4, 0, none⟩) (hW.block _ (World.block_lt_of_cell? wz _ hgz) (by simp only at hgl ⊢; omega))).trans hgz
    replace a2 : Hid (wz.drew.heap[w.heap.size + 1]? = some (.cells #[.slice none 0 0, .slice none 0 0] 28 (0, 0))) := Lib.hid a2.out
    clear hgz e10 e11
    refine wp_region_held_drew (S := (Only (fun k => k = w.heap.size + 1) wz)) (by kernel_rfl) hd0.out (fun hOn => ?_)
    generalize World.drew wz = wd at *
    refine wpAnyH_take (i := 0) (v := Value.agg _) (by simp only [List.getElem?_toArray, List.getElem?_cons_zero]; rfl) (by kernel_rfl) (by kernel_rfl) (by kernel_rfl) (by exact fun _ _ _ h => h) (Or.inl ⟨by rfl, fun W hSW => yields_load_row _ _ rfl _ _ _ rfl (rlA W hSW) huA rfl hzA⟩) hOn ?_
    try simp only [Act.put, List.setIfInBounds_toArray, List.set_cons_zero, List.set_cons_succ]
    refine wpAnyH_take (i := 1) (v := ?_) (by simp only [List.getElem?_toArray, List.getElem?_cons_succ, List.getElem?_cons_zero]; rfl) (by kernel_rfl) (by kernel_rfl) (by kernel_rfl) (by exact fun _ _ _ h => h) (Or.inl ⟨by rfl, ?_⟩) hOn ?_
    rotate_left
    focus (intro W hSW; go_simp; try with_reducible rfl)
    try simp only [Act.put, List.setIfInBounds_toArray, List.set_cons_zero, List.set_cons_succ]
    refine wpAnyH_ready (rs := [2]) (by kernel_rfl) (by simp) ?_
    refine AllReadyH.cons (by simp only [List.getElem?_toArray, List.getElem?_cons_succ, List.getElem?_cons_zero]; rfl) (fun Kz hKz => ?_) AllReadyH.nil
    rw [if_pos (by rfl)]
    (with_reducible refine wp_store_rowK 28 (.tmp 6) (.tmp 19) rfl (w.heap.size + 1) #[.slice none 0 0, .slice none 0 0] CM rfl rfl a2 hzA hss h1M ?_)
    intro w9 hU9
    have hS := hOn.trans (Only.ofUpd (D := fun k => k = w.heap.size + 1) hU9.out rfl) (fun _ _ e => e)
    have hres := Lib.hid hU9.out.here
    refine hKz.out _ _ (by first | exact hS | exact Below.trans hOn (Below.mono hnew (Below.size hOn))) (fun hNext => ?_)
    clear hKz Kz hOn
    have hOn := hNext
    clear hNext
    try clear hnew
    try clear hS
    try simp only [Act.put]
    refine wpAnyH_take (i := 3) (v := ?_) (by simp only [List.getElem?_toArray, List.getElem?_cons_succ, List.getElem?_cons_zero]; rfl) (by kernel_rfl) (by kernel_rfl) (by kernel_rfl) (by exact fun _ _ _ h => h) (Or.inl ⟨by rfl, ?_⟩) hOn ?_
    rotate_left
    focus (intro W hSW; go_simp; try with_reducible rfl)
    try simp only [Act.put, List.setIfInBounds_toArray, List.set_cons_zero, List.set_cons_succ]
    refine wpAnyH_done (by kernel_rfl) ?_ _
    all_goals
      go_wp2_with fail
      refine ret_cell_tmpB (c := CM) rfl rfl huA rfl hzA hres.out ?_
      exact hpost.out _ (hBz.out.trans (hOn.below (by have := hBz.out.size; omega) (fun k e => by omega)))

set_option maxRecDepth 100000 in
set_option maxHeartbeats 2000000 in
theorem mjudged_state (va : Value) (m : Md) (w : World) (ha : ArgM w va m) (l1 : m.ns.length ≤ 1000) (l2 : m.vs.length ≤ 1000) (v : Int) (i : Nat) (hi : i < m.vs.length) (hk : (m.vs[i]).v ≠ 0) (ea : Nat → Addr) (H : Errs 137 errGs w ea) :
    Calls Tryd.prog 21 #[va, .int .i64 (i : Int), .int .i64 v] w (KPost ea m 13 w) := by
  have ha0 := ha
  obtain ⟨⟨an, cn, av, cv, e0, hN, -, -, hV, -, -⟩, okN, okV⟩ := ha
  obtain ⟨N, hNl⟩ : ∃ N, N = m.ns.length := ⟨_, rfl⟩
  obtain ⟨V, hVl⟩ : ∃ V, V = m.vs.length := ⟨_, rfl⟩
  rw [← hNl, ← hVl] at e0
  obtain ⟨CM, hCM⟩ : ∃ CM : Array Value, CM = #[.slice an N cn, .slice av V cv] := ⟨_, rfl⟩
  rw [← hCM] at e0
  subst e0
  obtain ⟨a1, a2, hs2, hB⟩ := boxes2 w CM #[.slice none 0 0, .slice none 0 0] 28 28 _ rfl
  obtain ⟨w2, hw2⟩ : ∃ w2, w2 = (w.alloc (.cells CM 28)).alloc (.cells #[.slice none 0 0, .slice none 0 0] 28) := ⟨_, rfl⟩
  rw [← hw2] at a1 a2 hB
  have e10 : w2.cell? ⟨w.heap.size, 0, none⟩ = some (.slice an N cn) := by rw [cell_of_block a1, hCM]; rfl
  have e11 : w2.cell? ⟨w.heap.size, 1, none⟩ = some (.slice av V cv) := by rw [cell_of_block a1, hCM]; rfl
  obtain ⟨b, o, hab, hr⟩ := hV i hi
  subst hab
  have k2 : w2.cell? ⟨b, o + i * 3 + 2, none⟩ = some (.int .i64 (m.vs[i]).v) := (hB.cell (World.block_lt_of_cell? w _ (hr 2 _ rfl))).trans (hr 2 _ rfl)
  have hii : (i : Int) < (V : Int) := by rw [hVl]; omega
  have t1 : ((m.vs[i]).v != 0) = true := by simpa using hk
  generalize (m.vs[i]).v = y at *
  have hzA : (Tryd.prog.info? 28).map (·.size) = some CM.size := by rw [hCM]; kernel_rfl
  have h1M : CM.all (·.oneCell') = true := by rw [hCM]; simp [Value.oneCell']
  have hss : (#[.slice none 0 0, .slice none 0 0] : Array Value).size = CM.size := by rw [hCM]; rfl
  have huA := Tryd.underlying28
  have e10x := e10
  rw [hw2] at e10x
  have e11x := e11
  rw [hw2] at e11x
  have k2x := k2
  rw [hw2] at k2x
  have hge := Lib.hid (fun W (h : Below w.heap.size w W) => (num_cells (H.below h)).2.2.2.2.2.2.2.2.2.2.2.2.1)
  have hpost : Hid (∀ W, Below w.heap.size w W → KPost ea m 13 w (.returned (.tuple #[.agg CM, .iface 137 (.pointer (some (ea 12)))])) W) := Lib.hid (fun W h => ⟨_, _, rfl, ha0.below h (Nat.le_refl _), .inr (.inl ⟨12, by decide, rfl, rfl⟩), h⟩)
  have hgl : 5 < w.heap.size := World.block_lt_of_cell? w _ (hge.out w (Below.refl _ _))
  replace hNl := Lib.hid hNl
  replace hVl := Lib.hid hVl
  replace hCM := Lib.hid hCM
  replace hw2 := Lib.hid hw2
  replace a1 := Lib.hid a1
  replace a2 := Lib.hid a2
  replace hB := Lib.hid hB
  replace hs2 := Lib.hid hs2
  clear ha0 hN hV okN okV H hr hk
  go_enter Tryd.func21, Tryd.ntmps21
  go_wp2_with fail
  rw [← hw2.out]
  generalize w2 = wz at *
  have hBz := hB
  clear e10x e11x k2x
  have hd0 : Hid (Only (fun k => k = w.heap.size + 1) wz wz.drew) := Lib.hid ((Only.refl _ _).drew)
  have rlA : ∀ W : World, Only (fun k => k = w.heap.size + 1) wz W → W.heap[w.heap.size]? = some (.cells CM 28 (0, 0)) := fun W hW => hW.heap a1.out (by omega)
  have hgz := hge.out wz hBz.out
  have hcW : ∀ W : World, Only (fun k => k = w.heap.size + 1) wz W → W.cell? ⟨5, 0, none⟩ = some (.iface 137 (.pointer (some (ea 12)))) := fun W hW => (World.cell?_of_block (a := ⟨5, 0, none⟩) (hW.block _ (World.block_lt_of_cell? wz _ hgz) (by simp only at hgl ⊢; omega))).trans hgz
  replace a2 : Hid (wz.drew.heap[w.heap.size + 1]? = some (.cells #[.slice none 0 0, .slice none 0 0] 28 (0, 0))) := Lib.hid a2.out
  clear hgz e10 e11 k2
  refine wp_region_held_drew (S := (Only (fun k => k = w.heap.size + 1) wz)) (by kernel_rfl) hd0.out (fun hOn => ?_)
  generalize World.drew wz = wd at *
  refine wpAnyH_take (i := 0) (v := Value.agg _) (by simp only [List.getElem?_toArray, List.getElem?_cons_zero]; rfl) (by kernel_rfl) (by kernel_rfl) (by kernel_rfl) (by exact fun _ _ _ h => h) (Or.inl ⟨by rfl, fun W hSW => yields_load_row _ _ rfl _ _ _ rfl (rlA W hSW) huA rfl hzA⟩) hOn ?_
  try simp only [Act.put, List.setIfInBounds_toArray, List.set_cons_zero, List.set_cons_succ]
  refine wpAnyH_take (i := 1) (v := ?_) (by simp only [List.getElem?_toArray, List.getElem?_cons_succ, List.getElem?_cons_zero]; rfl) (by kernel_rfl) (by kernel_rfl) (by kernel_rfl) (by exact fun _ _ _ h => h) (Or.inl ⟨by rfl, ?_⟩) hOn ?_
  rotate_left
  focus (intro W hSW; go_simp; try with_reducible rfl)
  try simp only [Act.put, List.setIfInBounds_toArray, List.set_cons_zero, List.set_cons_succ]
  refine wpAnyH_ready (rs := [2]) (by kernel_rfl) (by simp) ?_
  refine AllReadyH.cons (by simp only [List.getElem?_toArray, List.getElem?_cons_succ, List.getElem?_cons_zero]; rfl) (fun Kz hKz => ?_) AllReadyH.nil
  rw [if_pos (by rfl)]
  (with_reducible refine wp_store_rowK 28 (.tmp 6) (.tmp 29) rfl (w.heap.size + 1) #[.slice none 0 0, .slice none 0 0] CM rfl rfl a2 hzA hss h1M ?_)
  intro w9 hU9
  have hS := hOn.trans (Only.ofUpd (D := fun k => k = w.heap.size + 1) hU9.out rfl) (fun _ _ e => e)
  have hres := Lib.hid hU9.out.here
  refine hKz.out _ _ (by first | exact hS | exact Below.trans hOn (Below.mono hnew (Below.size hOn))) (fun hNext => ?_)
  clear hKz Kz hOn
  have hOn := hNext
  clear hNext
  try clear hnew
  try clear hS
  try simp only [Act.put]
  refine wpAnyH_take (i := 3) (v := ?_) (by simp only [List.getElem?_toArray, List.getElem?_cons_succ, List.getElem?_cons_zero]; rfl) (by kernel_rfl) (by kernel_rfl) (by kernel_rfl) (by exact fun _ _ _ h => h) (Or.inl ⟨by rfl, ?_⟩) hOn ?_
  rotate_left
  focus (intro W hSW; go_simp; try with_reducible rfl)
  try simp only [Act.put, List.setIfInBounds_toArray, List.set_cons_zero, List.set_cons_succ]
  refine wpAnyH_done (by kernel_rfl) ?_ _
  all_goals
    go_wp2_with fail
    refine ret_cell_tmpB (c := CM) rfl rfl huA rfl hzA hres.out ?_
    exact hpost.out _ (hBz.out.trans (hOn.below (by have := hBz.out.size; omega) (fun k e => by omega)))

set_option maxRecDepth 100000 in
set_option maxHeartbeats 2000000 in
theorem mjudged_range (va : Value) (m : Md) (w : World) (ha : ArgM w va m) (l1 : m.ns.length ≤ 1000) (l2 : m.vs.length ≤ 1000) (v : Int) (i : Nat) (hi : i < m.vs.length) (hk : (m.vs[i]).v = 0) (h1 : v < 1 ∨ 3 < v) (ea : Nat → Addr) (H : Errs 137 errGs w ea) :
    Calls Tryd.prog 21 #[va, .int .i64 (i : Int), .int .i64 v] w (KPost ea m 1 w) := by
  have ha0 := ha
  obtain ⟨⟨an, cn, av, cv, e0, hN, -, -, hV, -, -⟩, okN, okV⟩ := ha
  obtain ⟨N, hNl⟩ : ∃ N, N = m.ns.length := ⟨_, rfl⟩
  obtain ⟨V, hVl⟩ : ∃ V, V = m.vs.length := ⟨_, rfl⟩
  rw [← hNl, ← hVl] at e0
  obtain ⟨CM, hCM⟩ : ∃ CM : Array Value, CM = #[.slice an N cn, .slice av V cv] := ⟨_, rfl⟩
  rw [← hCM] at e0
  subst e0
  obtain ⟨a1, a2, hs2, hB⟩ := boxes2 w CM #[.slice none 0 0, .slice none 0 0] 28 28 _ rfl
  obtain ⟨w2, hw2⟩ : ∃ w2, w2 = (w.alloc (.cells CM 28)).alloc (.cells #[.slice none 0 0, .slice none 0 0] 28) := ⟨_, rfl⟩
  rw [← hw2] at a1 a2 hB
  have e10 : w2.cell? ⟨w.heap.size, 0, none⟩ = some (.slice an N cn) := by rw [cell_of_block a1, hCM]; rfl
  have e11 : w2.cell? ⟨w.heap.size, 1, none⟩ = some (.slice av V cv) := by rw [cell_of_block a1, hCM]; rfl
  obtain ⟨b, o, hab, hr⟩ := hV i hi
  subst hab
  have k2 : w2.cell? ⟨b, o + i * 3 + 2, none⟩ = some (.int .i64 0) := (hB.cell (World.block_lt_of_cell? w _ (hr 2 _ (by show some (Value.int .i64 (m.vs[i]).v) = _; rw [hk])))).trans (hr 2 _ (by show some (Value.int .i64 (m.vs[i]).v) = _; rw [hk]))
  have hii : (i : Int) < (V : Int) := by rw [hVl]; omega
  have t1 : v < 1 ∨ (¬ v < 1 ∧ 3 < v) := by omega
  clear h1
  rcases t1 with t1 | ⟨t0, t1⟩
  · have hzA : (Tryd.prog.info? 28).map (·.size) = some CM.size := by rw [hCM]; kernel_rfl
    have h1M : CM.all (·.oneCell') = true := by rw [hCM]; simp [Value.oneCell']
    have hss : (#[.slice none 0 0, .slice none 0 0] : Array Value).size = CM.size := by rw [hCM]; rfl
    have huA := Tryd.underlying28
    have e10x := e10
    rw [hw2] at e10x
    have e11x := e11
    rw [hw2] at e11x
    have k2x := k2
    rw [hw2] at k2x
    have hge := Lib.hid (fun W (h : Below w.heap.size w W) => (num_cells (H.below h)).1)
    have hpost : Hid (∀ W, Below w.heap.size w W → KPost ea m 1 w (.returned (.tuple #[.agg CM, .iface 137 (.pointer (some (ea 0)))])) W) := Lib.hid (fun W h => ⟨_, _, rfl, ha0.below h (Nat.le_refl _), .inr (.inl ⟨0, by decide, rfl, rfl⟩), h⟩)
    have hgl : 8 < w.heap.size := World.block_lt_of_cell? w _ (hge.out w (Below.refl _ _))
    replace hNl := Lib.hid hNl
    replace hVl := Lib.hid hVl
    replace hCM := Lib.hid hCM
    replace hw2 := Lib.hid hw2
    replace a1 := Lib.hid a1
    replace a2 := Lib.hid a2
    replace hB := Lib.hid hB
    replace hs2 := Lib.hid hs2
    clear ha0 hN hV okN okV H hr hk
    go_enter Tryd.func21, Tryd.ntmps21
    go_wp2_with fail
    rw [← hw2.out]
    generalize w2 = wz at *
    have hBz := hB
    clear e10x e11x k2x
    have hd0 : Hid (Only (fun k => k = w.heap.size + 1) wz wz.drew) := Lib.hid ((Only.refl _ _).drew)
    have rlA : ∀ W : World, Only (fun k => k = w.heap.size + 1) wz W → W.heap[w.heap.size]? = some (.cells CM 28 (0, 0)) := fun W hW => hW.heap a1.out (by omega)
    have hgz := hge.out wz hBz.out
    have hcW : ∀ W : World, Only (fun k => k = w.heap.size + 1) wz W → W.cell? ⟨8, 0, none⟩ = some (.iface 137 (.pointer (some (ea 0)))) := fun W hW => (World.cell?_of_block (a := ⟨8, 0, none⟩) (hW.block _ (World.block_lt_of_cell? wz _ hgz) (by simp only at hgl ⊢; omega))).trans hgz
    replace a2 : Hid (wz.drew.heap[w.heap.size + 1]? = some (.cells #[.slice none 0 0, .slice none 0 0] 28 (0, 0))) := Lib.hid a2.out
    clear hgz e10 e11 k2
    refine wp_region_held_drew (S := (Only (fun k => k = w.heap.size + 1) wz)) (by kernel_rfl) hd0.out (fun hOn => ?_)
    generalize World.drew wz = wd at *
    refine wpAnyH_take (i := 0) (v := Value.agg _) (by simp only [List.getElem?_toArray, List.getElem?_cons_zero]; rfl) (by kernel_rfl) (by kernel_rfl) (by kernel_rfl) (by exact fun _ _ _ h => h) (Or.inl ⟨by rfl, fun W hSW => yields_load_row _ _ rfl _ _ _ rfl (rlA W hSW) huA rfl hzA⟩) hOn ?_
    try simp only [Act.put, List.setIfInBounds_toArray, List.set_cons_zero, List.set_cons_succ]
    refine wpAnyH_take (i := 1) (v := ?_) (by simp only [List.getElem?_toArray, List.getElem?_cons_succ, List.getElem?_cons_zero]; rfl) (by kernel_rfl) (by kernel_rfl) (by kernel_rfl) (by exact fun _ _ _ h => h) (Or.inl ⟨by rfl, ?_⟩) hOn ?_
    rotate_left
    focus (intro W hSW; go_simp; try with_reducible rfl)
    try simp only [Act.put, List.setIfInBounds_toArray, List.set_cons_zero, List.set_cons_succ]
    refine wpAnyH_ready (rs := [2]) (by kernel_rfl) (by simp) ?_
    refine AllReadyH.cons (by simp only [List.getElem?_toArray, List.getElem?_cons_succ, List.getElem?_cons_zero]; rfl) (fun Kz hKz => ?_) AllReadyH.nil
    rw [if_pos (by rfl)]
    (with_reducible refine wp_store_rowK 28 (.tmp 6) (.tmp 38) rfl (w.heap.size + 1) #[.slice none 0 0, .slice none 0 0] CM rfl rfl a2 hzA hss h1M ?_)
    intro w9 hU9
    have hS := hOn.trans (Only.ofUpd (D := fun k => k = w.heap.size + 1) hU9.out rfl) (fun _ _ e => e)
    have hres := Lib.hid hU9.out.here
    refine hKz.out _ _ (by first | exact hS | exact Below.trans hOn (Below.mono hnew (Below.size hOn))) (fun hNext => ?_)
    clear hKz Kz hOn
    have hOn := hNext
    clear hNext
    try clear hnew
    try clear hS
    try simp only [Act.put]
    refine wpAnyH_take (i := 3) (v := ?_) (by simp only [List.getElem?_toArray, List.getElem?_cons_succ, List.getElem?_cons_zero]; rfl) (by kernel_rfl) (by kernel_rfl) (by kernel_rfl) (by exact fun _ _ _ h => h) (Or.inl ⟨by rfl, ?_⟩) hOn ?_
    rotate_left
    focus (intro W hSW; go_simp; try with_reducible rfl)
    try simp only [Act.put, List.setIfInBounds_toArray, List.set_cons_zero, List.set_cons_succ]
    refine wpAnyH_done (by kernel_rfl) ?_ _
    all_goals
      go_wp2_with fail
      refine ret_cell_tmpB (c := CM) rfl rfl huA rfl hzA hres.out ?_
      exact hpost.out _ (hBz.out.trans (hOn.below (by have := hBz.out.size; omega) (fun k e => by omega)))

  · have hzA : (Tryd.prog.info? 28).map (·.size) = some CM.size := by rw [hCM]; kernel_rfl
    have h1M : CM.all (·.oneCell') = true := by rw [hCM]; simp [Value.oneCell']
    have hss : (#[.slice none 0 0, .slice none 0 0] : Array Value).size = CM.size := by rw [hCM]; rfl
    have huA := Tryd.underlying28
    have e10x := e10
    rw [hw2] at e10x
    have e11x := e11
    rw [hw2] at e11x
    have k2x := k2
    rw [hw2] at k2x
    have hge := Lib.hid (fun W (h : Below w.heap.size w W) => (num_cells (H.below h)).1)
    have hpost : Hid (∀ W, Below w.heap.size w W → KPost ea m 1 w (.returned (.tuple #[.agg CM, .iface 137 (.pointer (some (ea 0)))])) W) := Lib.hid (fun W h => ⟨_, _, rfl, ha0.below h (Nat.le_refl _), .inr (.inl ⟨0, by decide, rfl, rfl⟩), h⟩)
    have hgl : 8 < w.heap.size := World.block_lt_of_cell? w _ (hge.out w (Below.refl _ _))
    replace hNl := Lib.hid hNl
    replace hVl := Lib.hid hVl
    replace hCM := Lib.hid hCM
    replace hw2 := Lib.hid hw2
    replace a1 := Lib.hid a1
    replace a2 := Lib.hid a2
    replace hB := Lib.hid hB
    replace hs2 := Lib.hid hs2
    clear ha0 hN hV okN okV H hr hk
    go_enter Tryd.func21, Tryd.ntmps21
    go_wp2_with fail
    rw [← hw2.out]
    generalize w2 = wz at *
    have hBz := hB
    clear e10x e11x k2x
    have hd0 : Hid (Only (fun k => k = w.heap.size + 1) wz wz.drew) := Lib.hid ((Only.refl _ _).drew)
    have rlA : ∀ W : World, Only (fun k => k = w.heap.size + 1) wz W → W.heap[w.heap.size]? = some (.cells CM 28 (0, 0)) := fun W hW => hW.heap a1.out (by omega)
    have hgz := hge.out wz hBz.out
    have hcW : ∀ W : World, Only (fun k => k = w.heap.size + 1) wz W → W.cell? ⟨8, 0, none⟩ = some (.iface 137 (.pointer (some (ea 0)))) := fun W hW => (World.cell?_of_block (a := ⟨8, 0, none⟩) (hW.block _ (World.block_lt_of_cell? wz _ hgz) (by simp only at hgl ⊢; omega))).trans hgz
    replace a2 : Hid (wz.drew.heap[w.heap.size + 1]? = some (.cells #[.slice none 0 0, .slice none 0 0] 28 (0, 0))) := Lib.hid a2.out
    clear hgz e10 e11 k2
    refine wp_region_held_drew (S := (Only (fun k => k = w.heap.size + 1) wz)) (by kernel_rfl) hd0.out (fun hOn => ?_)
    generalize World.drew wz = wd at *
    refine wpAnyH_take (i := 0) (v := Value.agg _) (by simp only [List.getElem?_toArray, List.getElem?_cons_zero]; rfl) (by kernel_rfl) (by kernel_rfl) (by kernel_rfl) (by exact fun _ _ _ h => h) (Or.inl ⟨by rfl, fun W hSW => yields_load_row _ _ rfl _ _ _ rfl (rlA W hSW) huA rfl hzA⟩) hOn ?_
    try simp only [Act.put, List.setIfInBounds_toArray, List.set_cons_zero, List.set_cons_succ]
    refine wpAnyH_take (i := 1) (v := ?_) (by simp only [List.getElem?_toArray, List.getElem?_cons_succ, List.getElem?_cons_zero]; rfl) (by kernel_rfl) (by kernel_rfl) (by kernel_rfl) (by exact fun _ _ _ h => h) (Or.inl ⟨by rfl, ?_⟩) hOn ?_
    rotate_left
    focus (intro W hSW; go_simp; try with_reducible rfl)
    try simp only [Act.put, List.setIfInBounds_toArray, List.set_cons_zero, List.set_cons_succ]
    refine wpAnyH_ready (rs := [2]) (by kernel_rfl) (by simp) ?_
    refine AllReadyH.cons (by simp only [List.getElem?_toArray, List.getElem?_cons_succ, List.getElem?_cons_zero]; rfl) (fun Kz hKz => ?_) AllReadyH.nil
    rw [if_pos (by rfl)]
    (with_reducible refine wp_store_rowK 28 (.tmp 6) (.tmp 38) rfl (w.heap.size + 1) #[.slice none 0 0, .slice none 0 0] CM rfl rfl a2 hzA hss h1M ?_)
    intro w9 hU9
    have hS := hOn.trans (Only.ofUpd (D := fun k => k = w.heap.size + 1) hU9.out rfl) (fun _ _ e => e)
    have hres := Lib.hid hU9.out.here
    refine hKz.out _ _ (by first | exact hS | exact Below.trans hOn (Below.mono hnew (Below.size hOn))) (fun hNext => ?_)
    clear hKz Kz hOn
    have hOn := hNext
    clear hNext
    try clear hnew
    try clear hS
    try simp only [Act.put]
    refine wpAnyH_take (i := 3) (v := ?_) (by simp only [List.getElem?_toArray, List.getElem?_cons_succ, List.getElem?_cons_zero]; rfl) (by kernel_rfl) (by kernel_rfl) (by kernel_rfl) (by exact fun _ _ _ h => h) (Or.inl ⟨by rfl, ?_⟩) hOn ?_
    rotate_left
    focus (intro W hSW; go_simp; try with_reducible rfl)
    try simp only [Act.put, List.setIfInBounds_toArray, List.set_cons_zero, List.set_cons_succ]
    refine wpAnyH_done (by kernel_rfl) ?_ _
    all_goals
      go_wp2_with fail
      refine ret_cell_tmpB (c := CM) rfl rfl huA rfl hzA hres.out ?_
      exact hpost.out _ (hBz.out.trans (hOn.below (by have := hBz.out.size; omega) (fun k e => by omega)))

end Go.Proofs.YtndgacjfkoliaaaDoor
