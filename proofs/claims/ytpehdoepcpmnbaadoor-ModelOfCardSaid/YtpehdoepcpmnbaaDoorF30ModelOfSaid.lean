/- ledger.State's object, kept, asked, judged where an error comes of it. Printed by genfol.py. -/
import Derived.Test.YtpehdoepcpmnbaaDoorF29ModelOfSaid
import Derived.Test.YtpehdoepcpmnbaaDoorF5ModelOfSaid
namespace Go.Proofs.YtpehdoepcpmnbaaDoor
open Go.RowKit
set_option linter.unusedVariables false

set_option maxRecDepth 100000 in
set_option maxHeartbeats 2000000 in
theorem object_dup (va : Value) (m : St) (x : Rc) (hx : x.Ok) (w : World) (ha : ArgS w va m) (l1 : m.its.length ≤ 1000) (l2 : m.ens.length ≤ 1000) (h1 : (namedS m.its x.name).2 = true) (ea : Nat → Addr) (H : Errs 177 errGs w ea) :
    Calls Tryd.prog 34 #[va, .agg x.list.toArray] w (FolPost ea ⟨[], []⟩ 10 w) := by
  have hge := fun W (h : Below w.heap.size w W) => (num_cells (H.below h)).2.2.2.2.2.2.2.2.2.1
  have hcf := Lib.hid (Rc.kept0 x hx 59)
  have hc0 := fun W h => named_any va m W (ha.below h (Nat.le_refl _)) l1 x.name
  rw [h1] at hc0
  have hok := namedS_ok ha.okN x.name
  obtain ⟨XA, hXA⟩ : ∃ XA, XA = (namedS m.its x.name).1.list.toArray := ⟨_, rfl⟩
  have iA : (Tryd.prog.info? 93).map (·.size) = some XA.size := by rw [hXA, It.size hok]; kernel_rfl
  have zA : Tryd.zeroCells93.size = XA.size := by rw [hXA, It.size hok]; kernel_rfl
  have h1A : XA.all (·.oneCell') = true := by rw [hXA]; exact Go.Proofs.YtpehdoepcpmnbaaDoor.all_one (It.list_one _)
  rw [← hXA] at hc0
  obtain ⟨⟨an, cn, av, cv, rfl, hN, hN1, hN2, hV, hV1, hV2⟩, okN, okV⟩ := ha
  obtain ⟨N, hNl⟩ : ∃ N, N = m.its.length := ⟨_, rfl⟩
  obtain ⟨V, hVl⟩ : ∃ V, V = m.ens.length := ⟨_, rfl⟩
  rw [← hNl, ← hVl] at hc0
  rw [← hNl, ← hVl]
  generalize hRR : x.list.toArray = R at *
  obtain ⟨aS, aR, aO, hs3, hB⟩ := three_boxes w #[.slice an N cn, .slice av V cv] R #[.slice none 0 0, .slice none 0 0] 56 59 56 _ rfl
  obtain ⟨w3, hw3⟩ : ∃ w3, w3 = ((w.alloc (.cells #[.slice an N cn, .slice av V cv] 56)).alloc (.cells R 59)).alloc (.cells #[.slice none 0 0, .slice none 0 0] 56) := ⟨_, rfl⟩
  have s0 := cell_of_block aS 0
  have s1 := cell_of_block aS 1
  obtain ⟨q0, q1, q2, q3, q4, q5, q6, q7⟩ := hcf.out _ _ aR
  rw [← hw3] at aS aR aO hB
  have hpost : Hid (∀ W v, ErrIs ea W v 10 → Below w.heap.size w W → FolPost ea ⟨[], []⟩ 10 w (.returned (.tuple #[.agg #[.slice none 0 0, .slice none 0 0], v])) W) := Lib.hid (fun W v h1 h2 => ⟨_, _, rfl, argS_nil W, h1, h2, freshS_nil _⟩)
  generalize x.obj = vo at *
  generalize x.id = vi at *
  generalize x.way = vw at *
  generalize x.index = vx at *
  generalize x.name = vn at *
  replace hc0 := Lib.hid hc0
  replace hge := Lib.hid hge
  replace aS := Lib.hid aS
  replace aR := Lib.hid aR
  replace aO := Lib.hid aO
  replace hB := Lib.hid hB
  replace hw3 := Lib.hid hw3
  clear hRR hN hV hN1 hN2 hV1 hV2 okN okV hNl hVl hXA l1 l2 hs3 h1
  go_enter Tryd.func34, Tryd.ntmps34
  go_wp2_with fail
  rw [← hw3.out]
  with_reducible refine (hc0.out _ hB.out).mono ?_
  rintro e w4 ⟨rfl, hb⟩
  replace aS := Lib.hid ((hb.block _ (block_lt aS.out)).trans aS.out)
  replace aR := Lib.hid ((hb.block _ (block_lt aR.out)).trans aR.out)
  replace aO := Lib.hid ((hb.block _ (block_lt aO.out)).trans aO.out)
  replace hB := Lib.hid (hB.out.trans (hb.mono hB.out.size))
  clear hb s0 s1 q0 q1 q2 q3 q4 q5 q6 q7
  have s0 := cell_of_block aS.out 0
  have s1 := cell_of_block aS.out 1
  obtain ⟨q0, q1, q2, q3, q4, q5, q6, q7⟩ := hcf.out _ _ aR.out
  have hZ4 := Lib.hid (heap_alloc_new w4 (.cells Tryd.zeroCells93 93))
  go_wp2_with ((with_reducible show wpList _ _ _ (Oper.mk _ (Op.store 93 (.tmp 6) _) _ _ _ _ :: _) _ _); (refine wpList_store_row rfl 93 (.tmp 6) (.tmp 14) rfl w4.heap.size _ XA rfl rfl hZ4 iA zA h1A ?_); intro w5 hU5; have hb5 : Below w4.heap.size w4 w5 := (Below.alloc (Below.refl w4.heap.size w4) (Nat.le_refl _) _).trans (hU5.out.below (Nat.le_refl _)); have aX := Lib.hid hU5.out.here; replace aS := Lib.hid ((hb5.block _ (block_lt aS.out)).trans aS.out); replace aR := Lib.hid ((hb5.block _ (block_lt aR.out)).trans aR.out); replace aO := Lib.hid ((hb5.block _ (block_lt aO.out)).trans aO.out); replace hB := Lib.hid (hB.out.trans (hb5.mono hB.out.size)); clear s0 s1 q0 q1 q2 q3 q4 q5 q6 q7 hb5; have s0 := cell_of_block aS.out 0; have s1 := cell_of_block aS.out 1; obtain ⟨q0, q1, q2, q3, q4, q5, q6, q7⟩ := hcf.out _ _ aR.out)
  have hd0 : Hid (Below w.heap.size w w5.drew) := Lib.hid hB.out.drew
  replace aO : Hid (w5.drew.heap[w.heap.size + 2]? = some (.cells #[.slice none 0 0, .slice none 0 0] 56 (0, 0))) := Lib.hid aO.out
  have hcW := fun W h => hge.out W h
  refine wp_region_held_drew (S := (Below w.heap.size w)) (by kernel_rfl) hd0.out (fun hOn => ?_)
  generalize World.drew w5 = wd at *
  refine wpAnyH_take (i := 0) (v := ?_) (by simp only [List.getElem?_toArray, List.getElem?_cons_zero]; rfl) (by kernel_rfl) (by kernel_rfl) (by kernel_rfl) (by exact fun _ _ _ h => h) (Or.inl ⟨by rfl, ?_⟩) hOn ?_
  rotate_left
  focus (intro W hSW; go_simp; try with_reducible rfl)
  try simp only [Act.put, List.setIfInBounds_toArray, List.set_cons_zero, List.set_cons_succ]
  refine wpAnyH_take (i := 1) (v := ?_) (by simp only [List.getElem?_toArray, List.getElem?_cons_succ, List.getElem?_cons_zero]; rfl) (by kernel_rfl) (by kernel_rfl) (by kernel_rfl) (by exact fun _ _ _ h => h) (Or.inl ⟨by rfl, ?_⟩) hOn ?_
  rotate_left
  focus (intro W hSW; go_simp; try with_reducible rfl)
  try simp only [Act.put, List.setIfInBounds_toArray, List.set_cons_zero, List.set_cons_succ]
  refine wpAnyH_ready (rs := [2]) (by kernel_rfl) (by simp) ?_
  refine AllReadyH.cons (by simp only [List.getElem?_toArray, List.getElem?_cons_succ, List.getElem?_cons_zero]; rfl) (fun Kz hKz => ?_) AllReadyH.nil
  rw [if_pos (by rfl)]
  (with_reducible refine wp_store_rowK 56 (.tmp 4) (.tmp 18) rfl (w.heap.size + 2) #[.slice none 0 0, .slice none 0 0] #[.slice none 0 0, .slice none 0 0] rfl rfl aO (by kernel_rfl) rfl (by simp [Value.oneCell']) ?_)
  intro w9 hU9
  have hS := hOn.trans (hU9.out.below (by omega))
  have hres := Lib.hid hU9.out.here
  refine hKz.out _ _ (by first | exact hS | exact Below.trans hOn (Below.mono hnew (Below.size hOn))) (fun hNext => ?_)
  clear hKz Kz hOn
  have hOn := hNext
  clear hNext
  try clear hnew
  try clear hS
  try simp only [Act.put]
  refine wpAnyH_take (i := 3) (v := ?_) (by simp only [List.getElem?_toArray, List.getElem?_cons_succ, List.getElem?_cons_zero]; rfl) (by kernel_rfl) (by kernel_rfl) (by kernel_rfl) (by exact fun _ _ _ h => h) (Or.inl ⟨by rfl, ?_⟩) hOn ?_
  rotate_left
  focus (intro W hSW; go_simp; try with_reducible rfl)
  try simp only [Act.put, List.setIfInBounds_toArray, List.set_cons_zero, List.set_cons_succ]
  refine wpAnyH_done (by kernel_rfl) ?_ _
  all_goals
    go_wp2_with fail
    refine ret_cell_tmpB rfl rfl Tryd.underlying56 rfl (by kernel_rfl) hres.out ?_
    exact hpost.out _ _ (.inr (.inl ⟨10 - 1, by decide, by decide, rfl⟩)) hOn

set_option maxRecDepth 100000 in
set_option maxHeartbeats 2000000 in
theorem object_full (va : Value) (m : St) (x : Rc) (hx : x.Ok) (w : World) (ha : ArgS w va m) (l1 : m.its.length ≤ 1000) (l2 : m.ens.length ≤ 1000) (h1 : (namedS m.its x.name).2 = false) (h2 : 4 ≤ m.its.length) (ea : Nat → Addr) (H : Errs 177 errGs w ea) :
    Calls Tryd.prog 34 #[va, .agg x.list.toArray] w (FolPost ea ⟨[], []⟩ 12 w) := by
  have hge := fun W (h : Below w.heap.size w W) => (num_cells (H.below h)).2.2.2.2.2.2.2.2.2.2.2.1
  have hcf := Lib.hid (Rc.kept0 x hx 59)
  have hc0 := fun W h => named_any va m W (ha.below h (Nat.le_refl _)) l1 x.name
  rw [h1] at hc0
  have hok := namedS_ok ha.okN x.name
  obtain ⟨XA, hXA⟩ : ∃ XA, XA = (namedS m.its x.name).1.list.toArray := ⟨_, rfl⟩
  have iA : (Tryd.prog.info? 93).map (·.size) = some XA.size := by rw [hXA, It.size hok]; kernel_rfl
  have zA : Tryd.zeroCells93.size = XA.size := by rw [hXA, It.size hok]; kernel_rfl
  have h1A : XA.all (·.oneCell') = true := by rw [hXA]; exact Go.Proofs.YtpehdoepcpmnbaaDoor.all_one (It.list_one _)
  rw [← hXA] at hc0
  obtain ⟨⟨an, cn, av, cv, rfl, hN, hN1, hN2, hV, hV1, hV2⟩, okN, okV⟩ := ha
  obtain ⟨N, hNl⟩ : ∃ N, N = m.its.length := ⟨_, rfl⟩
  obtain ⟨V, hVl⟩ : ∃ V, V = m.ens.length := ⟨_, rfl⟩
  rw [← hNl, ← hVl] at hc0
  rw [← hNl, ← hVl]
  generalize hRR : x.list.toArray = R at *
  obtain ⟨aS, aR, aO, hs3, hB⟩ := three_boxes w #[.slice an N cn, .slice av V cv] R #[.slice none 0 0, .slice none 0 0] 56 59 56 _ rfl
  obtain ⟨w3, hw3⟩ : ∃ w3, w3 = ((w.alloc (.cells #[.slice an N cn, .slice av V cv] 56)).alloc (.cells R 59)).alloc (.cells #[.slice none 0 0, .slice none 0 0] 56) := ⟨_, rfl⟩
  have s0 := cell_of_block aS 0
  have s1 := cell_of_block aS 1
  obtain ⟨q0, q1, q2, q3, q4, q5, q6, q7⟩ := hcf.out _ _ aR
  rw [← hw3] at aS aR aO hB
  have hN4 : (4 : Int) ≤ (N : Int) := by rw [hNl]; omega
  have hpost : Hid (∀ W v, ErrIs ea W v 12 → Below w.heap.size w W → FolPost ea ⟨[], []⟩ 12 w (.returned (.tuple #[.agg #[.slice none 0 0, .slice none 0 0], v])) W) := Lib.hid (fun W v h1 h2 => ⟨_, _, rfl, argS_nil W, h1, h2, freshS_nil _⟩)
  generalize x.obj = vo at *
  generalize x.id = vi at *
  generalize x.way = vw at *
  generalize x.index = vx at *
  generalize x.name = vn at *
  replace hc0 := Lib.hid hc0
  replace hge := Lib.hid hge
  replace aS := Lib.hid aS
  replace aR := Lib.hid aR
  replace aO := Lib.hid aO
  replace hB := Lib.hid hB
  replace hw3 := Lib.hid hw3
  clear hRR hN hV hN1 hN2 hV1 hV2 okN okV hNl hVl hXA l1 l2 hs3 h1 h2
  go_enter Tryd.func34, Tryd.ntmps34
  go_wp2_with fail
  rw [← hw3.out]
  with_reducible refine (hc0.out _ hB.out).mono ?_
  rintro e w4 ⟨rfl, hb⟩
  replace aS := Lib.hid ((hb.block _ (block_lt aS.out)).trans aS.out)
  replace aR := Lib.hid ((hb.block _ (block_lt aR.out)).trans aR.out)
  replace aO := Lib.hid ((hb.block _ (block_lt aO.out)).trans aO.out)
  replace hB := Lib.hid (hB.out.trans (hb.mono hB.out.size))
  clear hb s0 s1 q0 q1 q2 q3 q4 q5 q6 q7
  have s0 := cell_of_block aS.out 0
  have s1 := cell_of_block aS.out 1
  obtain ⟨q0, q1, q2, q3, q4, q5, q6, q7⟩ := hcf.out _ _ aR.out
  have hZ4 := Lib.hid (heap_alloc_new w4 (.cells Tryd.zeroCells93 93))
  go_wp2_with ((with_reducible show wpList _ _ _ (Oper.mk _ (Op.store 93 (.tmp 6) _) _ _ _ _ :: _) _ _); (refine wpList_store_row rfl 93 (.tmp 6) (.tmp 14) rfl w4.heap.size _ XA rfl rfl hZ4 iA zA h1A ?_); intro w5 hU5; have hb5 : Below w4.heap.size w4 w5 := (Below.alloc (Below.refl w4.heap.size w4) (Nat.le_refl _) _).trans (hU5.out.below (Nat.le_refl _)); have aX := Lib.hid hU5.out.here; replace aS := Lib.hid ((hb5.block _ (block_lt aS.out)).trans aS.out); replace aR := Lib.hid ((hb5.block _ (block_lt aR.out)).trans aR.out); replace aO := Lib.hid ((hb5.block _ (block_lt aO.out)).trans aO.out); replace hB := Lib.hid (hB.out.trans (hb5.mono hB.out.size)); clear s0 s1 q0 q1 q2 q3 q4 q5 q6 q7 hb5; have s0 := cell_of_block aS.out 0; have s1 := cell_of_block aS.out 1; obtain ⟨q0, q1, q2, q3, q4, q5, q6, q7⟩ := hcf.out _ _ aR.out)
  have hd0 : Hid (Below w.heap.size w w5.drew) := Lib.hid hB.out.drew
  replace aO : Hid (w5.drew.heap[w.heap.size + 2]? = some (.cells #[.slice none 0 0, .slice none 0 0] 56 (0, 0))) := Lib.hid aO.out
  have hcW := fun W h => hge.out W h
  refine wp_region_held_drew (S := (Below w.heap.size w)) (by kernel_rfl) hd0.out (fun hOn => ?_)
  generalize World.drew w5 = wd at *
  refine wpAnyH_take (i := 0) (v := ?_) (by simp only [List.getElem?_toArray, List.getElem?_cons_zero]; rfl) (by kernel_rfl) (by kernel_rfl) (by kernel_rfl) (by exact fun _ _ _ h => h) (Or.inl ⟨by rfl, ?_⟩) hOn ?_
  rotate_left
  focus (intro W hSW; go_simp; try with_reducible rfl)
  try simp only [Act.put, List.setIfInBounds_toArray, List.set_cons_zero, List.set_cons_succ]
  refine wpAnyH_take (i := 1) (v := ?_) (by simp only [List.getElem?_toArray, List.getElem?_cons_succ, List.getElem?_cons_zero]; rfl) (by kernel_rfl) (by kernel_rfl) (by kernel_rfl) (by exact fun _ _ _ h => h) (Or.inl ⟨by rfl, ?_⟩) hOn ?_
  rotate_left
  focus (intro W hSW; go_simp; try with_reducible rfl)
  try simp only [Act.put, List.setIfInBounds_toArray, List.set_cons_zero, List.set_cons_succ]
  refine wpAnyH_ready (rs := [2]) (by kernel_rfl) (by simp) ?_
  refine AllReadyH.cons (by simp only [List.getElem?_toArray, List.getElem?_cons_succ, List.getElem?_cons_zero]; rfl) (fun Kz hKz => ?_) AllReadyH.nil
  rw [if_pos (by rfl)]
  (with_reducible refine wp_store_rowK 56 (.tmp 4) (.tmp 25) rfl (w.heap.size + 2) #[.slice none 0 0, .slice none 0 0] #[.slice none 0 0, .slice none 0 0] rfl rfl aO (by kernel_rfl) rfl (by simp [Value.oneCell']) ?_)
  intro w9 hU9
  have hS := hOn.trans (hU9.out.below (by omega))
  have hres := Lib.hid hU9.out.here
  refine hKz.out _ _ (by first | exact hS | exact Below.trans hOn (Below.mono hnew (Below.size hOn))) (fun hNext => ?_)
  clear hKz Kz hOn
  have hOn := hNext
  clear hNext
  try clear hnew
  try clear hS
  try simp only [Act.put]
  refine wpAnyH_take (i := 3) (v := ?_) (by simp only [List.getElem?_toArray, List.getElem?_cons_succ, List.getElem?_cons_zero]; rfl) (by kernel_rfl) (by kernel_rfl) (by kernel_rfl) (by exact fun _ _ _ h => h) (Or.inl ⟨by rfl, ?_⟩) hOn ?_
  rotate_left
  focus (intro W hSW; go_simp; try with_reducible rfl)
  try simp only [Act.put, List.setIfInBounds_toArray, List.set_cons_zero, List.set_cons_succ]
  refine wpAnyH_done (by kernel_rfl) ?_ _
  all_goals
    go_wp2_with fail
    refine ret_cell_tmpB rfl rfl Tryd.underlying56 rfl (by kernel_rfl) hres.out ?_
    exact hpost.out _ _ (.inr (.inl ⟨12 - 1, by decide, by decide, rfl⟩)) hOn

set_option maxRecDepth 100000 in
set_option maxHeartbeats 2000000 in
theorem object_form (va : Value) (m : St) (x : Rc) (hx : x.Ok) (w : World) (ha : ArgS w va m) (l1 : m.its.length ≤ 1000) (l2 : m.ens.length ≤ 1000) (h1 : (namedS m.its x.name).2 = false) (h2 : m.its.length < 4) (h3 : x.obj ≠ (m.its.length : Int)) (ea : Nat → Addr) (H : Errs 177 errGs w ea) :
    Calls Tryd.prog 34 #[va, .agg x.list.toArray] w (FolPost ea ⟨[], []⟩ 4 w) := by
  have hge := fun W (h : Below w.heap.size w W) => (num_cells (H.below h)).2.2.2.1
  have hcf := Lib.hid (Rc.kept0 x hx 59)
  have hc0 := fun W h => named_any va m W (ha.below h (Nat.le_refl _)) l1 x.name
  rw [h1] at hc0
  have hok := namedS_ok ha.okN x.name
  obtain ⟨XA, hXA⟩ : ∃ XA, XA = (namedS m.its x.name).1.list.toArray := ⟨_, rfl⟩
  have iA : (Tryd.prog.info? 93).map (·.size) = some XA.size := by rw [hXA, It.size hok]; kernel_rfl
  have zA : Tryd.zeroCells93.size = XA.size := by rw [hXA, It.size hok]; kernel_rfl
  have h1A : XA.all (·.oneCell') = true := by rw [hXA]; exact Go.Proofs.YtpehdoepcpmnbaaDoor.all_one (It.list_one _)
  rw [← hXA] at hc0
  obtain ⟨⟨an, cn, av, cv, rfl, hN, hN1, hN2, hV, hV1, hV2⟩, okN, okV⟩ := ha
  obtain ⟨N, hNl⟩ : ∃ N, N = m.its.length := ⟨_, rfl⟩
  obtain ⟨V, hVl⟩ : ∃ V, V = m.ens.length := ⟨_, rfl⟩
  rw [← hNl, ← hVl] at hc0
  rw [← hNl, ← hVl]
  generalize hRR : x.list.toArray = R at *
  obtain ⟨aS, aR, aO, hs3, hB⟩ := three_boxes w #[.slice an N cn, .slice av V cv] R #[.slice none 0 0, .slice none 0 0] 56 59 56 _ rfl
  obtain ⟨w3, hw3⟩ : ∃ w3, w3 = ((w.alloc (.cells #[.slice an N cn, .slice av V cv] 56)).alloc (.cells R 59)).alloc (.cells #[.slice none 0 0, .slice none 0 0] 56) := ⟨_, rfl⟩
  have s0 := cell_of_block aS 0
  have s1 := cell_of_block aS 1
  obtain ⟨q0, q1, q2, q3, q4, q5, q6, q7⟩ := hcf.out _ _ aR
  rw [← hw3] at aS aR aO hB
  have hN4 : (N : Int) < 4 := by rw [hNl]; omega
  have hof : (x.obj != (N : Int)) = true := by rw [hNl]; simpa using h3
  have hpost : Hid (∀ W v, ErrIs ea W v 4 → Below w.heap.size w W → FolPost ea ⟨[], []⟩ 4 w (.returned (.tuple #[.agg #[.slice none 0 0, .slice none 0 0], v])) W) := Lib.hid (fun W v h1 h2 => ⟨_, _, rfl, argS_nil W, h1, h2, freshS_nil _⟩)
  generalize x.obj = vo at *
  generalize x.id = vi at *
  generalize x.way = vw at *
  generalize x.index = vx at *
  generalize x.name = vn at *
  replace hc0 := Lib.hid hc0
  replace hge := Lib.hid hge
  replace aS := Lib.hid aS
  replace aR := Lib.hid aR
  replace aO := Lib.hid aO
  replace hB := Lib.hid hB
  replace hw3 := Lib.hid hw3
  clear hRR hN hV hN1 hN2 hV1 hV2 okN okV hNl hVl hXA l1 l2 hs3 h1 h3 h2
  go_enter Tryd.func34, Tryd.ntmps34
  go_wp2_with fail
  rw [← hw3.out]
  with_reducible refine (hc0.out _ hB.out).mono ?_
  rintro e w4 ⟨rfl, hb⟩
  replace aS := Lib.hid ((hb.block _ (block_lt aS.out)).trans aS.out)
  replace aR := Lib.hid ((hb.block _ (block_lt aR.out)).trans aR.out)
  replace aO := Lib.hid ((hb.block _ (block_lt aO.out)).trans aO.out)
  replace hB := Lib.hid (hB.out.trans (hb.mono hB.out.size))
  clear hb s0 s1 q0 q1 q2 q3 q4 q5 q6 q7
  have s0 := cell_of_block aS.out 0
  have s1 := cell_of_block aS.out 1
  obtain ⟨q0, q1, q2, q3, q4, q5, q6, q7⟩ := hcf.out _ _ aR.out
  have hZ4 := Lib.hid (heap_alloc_new w4 (.cells Tryd.zeroCells93 93))
  go_wp2_with ((with_reducible show wpList _ _ _ (Oper.mk _ (Op.store 93 (.tmp 6) _) _ _ _ _ :: _) _ _); (refine wpList_store_row rfl 93 (.tmp 6) (.tmp 14) rfl w4.heap.size _ XA rfl rfl hZ4 iA zA h1A ?_); intro w5 hU5; have hb5 : Below w4.heap.size w4 w5 := (Below.alloc (Below.refl w4.heap.size w4) (Nat.le_refl _) _).trans (hU5.out.below (Nat.le_refl _)); have aX := Lib.hid hU5.out.here; replace aS := Lib.hid ((hb5.block _ (block_lt aS.out)).trans aS.out); replace aR := Lib.hid ((hb5.block _ (block_lt aR.out)).trans aR.out); replace aO := Lib.hid ((hb5.block _ (block_lt aO.out)).trans aO.out); replace hB := Lib.hid (hB.out.trans (hb5.mono hB.out.size)); clear s0 s1 q0 q1 q2 q3 q4 q5 q6 q7 hb5; have s0 := cell_of_block aS.out 0; have s1 := cell_of_block aS.out 1; obtain ⟨q0, q1, q2, q3, q4, q5, q6, q7⟩ := hcf.out _ _ aR.out)
  have hd0 : Hid (Below w.heap.size w w5.drew) := Lib.hid hB.out.drew
  replace aO : Hid (w5.drew.heap[w.heap.size + 2]? = some (.cells #[.slice none 0 0, .slice none 0 0] 56 (0, 0))) := Lib.hid aO.out
  have hcW := fun W h => hge.out W h
  refine wp_region_held_drew (S := (Below w.heap.size w)) (by kernel_rfl) hd0.out (fun hOn => ?_)
  generalize World.drew w5 = wd at *
  refine wpAnyH_take (i := 0) (v := ?_) (by simp only [List.getElem?_toArray, List.getElem?_cons_zero]; rfl) (by kernel_rfl) (by kernel_rfl) (by kernel_rfl) (by exact fun _ _ _ h => h) (Or.inl ⟨by rfl, ?_⟩) hOn ?_
  rotate_left
  focus (intro W hSW; go_simp; try with_reducible rfl)
  try simp only [Act.put, List.setIfInBounds_toArray, List.set_cons_zero, List.set_cons_succ]
  refine wpAnyH_take (i := 1) (v := ?_) (by simp only [List.getElem?_toArray, List.getElem?_cons_succ, List.getElem?_cons_zero]; rfl) (by kernel_rfl) (by kernel_rfl) (by kernel_rfl) (by exact fun _ _ _ h => h) (Or.inl ⟨by rfl, ?_⟩) hOn ?_
  rotate_left
  focus (intro W hSW; go_simp; try with_reducible rfl)
  try simp only [Act.put, List.setIfInBounds_toArray, List.set_cons_zero, List.set_cons_succ]
  refine wpAnyH_ready (rs := [2]) (by kernel_rfl) (by simp) ?_
  refine AllReadyH.cons (by simp only [List.getElem?_toArray, List.getElem?_cons_succ, List.getElem?_cons_zero]; rfl) (fun Kz hKz => ?_) AllReadyH.nil
  rw [if_pos (by rfl)]
  (with_reducible refine wp_store_rowK 56 (.tmp 4) (.tmp 34) rfl (w.heap.size + 2) #[.slice none 0 0, .slice none 0 0] #[.slice none 0 0, .slice none 0 0] rfl rfl aO (by kernel_rfl) rfl (by simp [Value.oneCell']) ?_)
  intro w9 hU9
  have hS := hOn.trans (hU9.out.below (by omega))
  have hres := Lib.hid hU9.out.here
  refine hKz.out _ _ (by first | exact hS | exact Below.trans hOn (Below.mono hnew (Below.size hOn))) (fun hNext => ?_)
  clear hKz Kz hOn
  have hOn := hNext
  clear hNext
  try clear hnew
  try clear hS
  try simp only [Act.put]
  refine wpAnyH_take (i := 3) (v := ?_) (by simp only [List.getElem?_toArray, List.getElem?_cons_succ, List.getElem?_cons_zero]; rfl) (by kernel_rfl) (by kernel_rfl) (by kernel_rfl) (by exact fun _ _ _ h => h) (Or.inl ⟨by rfl, ?_⟩) hOn ?_
  rotate_left
  focus (intro W hSW; go_simp; try with_reducible rfl)
  try simp only [Act.put, List.setIfInBounds_toArray, List.set_cons_zero, List.set_cons_succ]
  refine wpAnyH_done (by kernel_rfl) ?_ _
  all_goals
    go_wp2_with fail
    refine ret_cell_tmpB rfl rfl Tryd.underlying56 rfl (by kernel_rfl) hres.out ?_
    exact hpost.out _ _ (.inr (.inl ⟨4 - 1, by decide, by decide, rfl⟩)) hOn

set_option maxRecDepth 100000 in
set_option maxHeartbeats 2000000 in
theorem kept_none (va : Value) (m : St) (x : Rc) (hx : x.Ok) (w : World) (ha : ArgS w va m) (l1 : m.its.length ≤ 1000) (l2 : m.ens.length ≤ 1000) (h1 : ¬ (0 ≤ x.obj ∧ x.obj < m.its.length)) (ea : Nat → Addr) (H : Errs 177 errGs w ea) :
    Calls Tryd.prog 36 #[va, .agg x.list.toArray] w (FolPost ea ⟨[], []⟩ 11 w) := by
  have hge := fun W (h : Below w.heap.size w W) => (num_cells (H.below h)).2.2.2.2.2.2.2.2.2.2.1
  have hcf := Lib.hid (Rc.kept0 x hx 59)
  have hc0 := fun W h => item_out va m W (ha.below h (Nat.le_refl _)) x.obj h1 l1
  have hok : (default : It).Ok := It.default_ok
  obtain ⟨XA, hXA⟩ : ∃ XA, XA = (default : It).list.toArray := ⟨_, rfl⟩
  have iA : (Tryd.prog.info? 93).map (·.size) = some XA.size := by rw [hXA, It.size hok]; kernel_rfl
  have zA : Tryd.zeroCells93.size = XA.size := by rw [hXA, It.size hok]; kernel_rfl
  have h1A : XA.all (·.oneCell') = true := by rw [hXA]; exact Go.Proofs.YtpehdoepcpmnbaaDoor.all_one (It.list_one _)
  rw [← hXA] at hc0
  obtain ⟨⟨an, cn, av, cv, rfl, hN, hN1, hN2, hV, hV1, hV2⟩, okN, okV⟩ := ha
  obtain ⟨N, hNl⟩ : ∃ N, N = m.its.length := ⟨_, rfl⟩
  obtain ⟨V, hVl⟩ : ∃ V, V = m.ens.length := ⟨_, rfl⟩
  rw [← hNl, ← hVl] at hc0
  rw [← hNl, ← hVl]
  generalize hRR : x.list.toArray = R at *
  obtain ⟨aS, aR, aO, hs3, hB⟩ := three_boxes w #[.slice an N cn, .slice av V cv] R #[.slice none 0 0, .slice none 0 0] 56 59 56 _ rfl
  obtain ⟨w3, hw3⟩ : ∃ w3, w3 = ((w.alloc (.cells #[.slice an N cn, .slice av V cv] 56)).alloc (.cells R 59)).alloc (.cells #[.slice none 0 0, .slice none 0 0] 56) := ⟨_, rfl⟩
  have s0 := cell_of_block aS 0
  have s1 := cell_of_block aS 1
  obtain ⟨q0, q1, q2, q3, q4, q5, q6, q7⟩ := hcf.out _ _ aR
  rw [← hw3] at aS aR aO hB
  have hpost : Hid (∀ W v, ErrIs ea W v 11 → Below w.heap.size w W → FolPost ea ⟨[], []⟩ 11 w (.returned (.tuple #[.agg #[.slice none 0 0, .slice none 0 0], v])) W) := Lib.hid (fun W v h1 h2 => ⟨_, _, rfl, argS_nil W, h1, h2, freshS_nil _⟩)
  generalize x.obj = vo at *
  generalize x.id = vi at *
  generalize x.way = vw at *
  generalize x.index = vx at *
  generalize x.name = vn at *
  replace hc0 := Lib.hid hc0
  replace hge := Lib.hid hge
  replace aS := Lib.hid aS
  replace aR := Lib.hid aR
  replace aO := Lib.hid aO
  replace hB := Lib.hid hB
  replace hw3 := Lib.hid hw3
  clear hRR hN hV hN1 hN2 hV1 hV2 okN okV hNl hVl hXA l1 l2 hs3 h1
  go_enter Tryd.func36, Tryd.ntmps36
  go_wp2_with fail
  rw [← hw3.out]
  with_reducible refine (hc0.out _ hB.out).mono ?_
  rintro e w4 ⟨rfl, hb⟩
  replace aS := Lib.hid ((hb.block _ (block_lt aS.out)).trans aS.out)
  replace aR := Lib.hid ((hb.block _ (block_lt aR.out)).trans aR.out)
  replace aO := Lib.hid ((hb.block _ (block_lt aO.out)).trans aO.out)
  replace hB := Lib.hid (hB.out.trans (hb.mono hB.out.size))
  clear hb s0 s1 q0 q1 q2 q3 q4 q5 q6 q7
  have s0 := cell_of_block aS.out 0
  have s1 := cell_of_block aS.out 1
  obtain ⟨q0, q1, q2, q3, q4, q5, q6, q7⟩ := hcf.out _ _ aR.out
  have hZ4 := Lib.hid (heap_alloc_new w4 (.cells Tryd.zeroCells93 93))
  go_wp2_with ((with_reducible show wpList _ _ _ (Oper.mk _ (Op.store 93 (.tmp 6) _) _ _ _ _ :: _) _ _); (refine wpList_store_row rfl 93 (.tmp 6) (.tmp 14) rfl w4.heap.size _ XA rfl rfl hZ4 iA zA h1A ?_); intro w5 hU5; have hb5 : Below w4.heap.size w4 w5 := (Below.alloc (Below.refl w4.heap.size w4) (Nat.le_refl _) _).trans (hU5.out.below (Nat.le_refl _)); have aX := Lib.hid hU5.out.here; replace aS := Lib.hid ((hb5.block _ (block_lt aS.out)).trans aS.out); replace aR := Lib.hid ((hb5.block _ (block_lt aR.out)).trans aR.out); replace aO := Lib.hid ((hb5.block _ (block_lt aO.out)).trans aO.out); replace hB := Lib.hid (hB.out.trans (hb5.mono hB.out.size)); clear s0 s1 q0 q1 q2 q3 q4 q5 q6 q7 hb5; have s0 := cell_of_block aS.out 0; have s1 := cell_of_block aS.out 1; obtain ⟨q0, q1, q2, q3, q4, q5, q6, q7⟩ := hcf.out _ _ aR.out)
  have hd0 : Hid (Below w.heap.size w w5.drew) := Lib.hid hB.out.drew
  replace aO : Hid (w5.drew.heap[w.heap.size + 2]? = some (.cells #[.slice none 0 0, .slice none 0 0] 56 (0, 0))) := Lib.hid aO.out
  have hcW := fun W h => hge.out W h
  refine wp_region_held_drew (S := (Below w.heap.size w)) (by kernel_rfl) hd0.out (fun hOn => ?_)
  generalize World.drew w5 = wd at *
  refine wpAnyH_take (i := 0) (v := ?_) (by simp only [List.getElem?_toArray, List.getElem?_cons_zero]; rfl) (by kernel_rfl) (by kernel_rfl) (by kernel_rfl) (by exact fun _ _ _ h => h) (Or.inl ⟨by rfl, ?_⟩) hOn ?_
  rotate_left
  focus (intro W hSW; go_simp; try with_reducible rfl)
  try simp only [Act.put, List.setIfInBounds_toArray, List.set_cons_zero, List.set_cons_succ]
  refine wpAnyH_take (i := 1) (v := ?_) (by simp only [List.getElem?_toArray, List.getElem?_cons_succ, List.getElem?_cons_zero]; rfl) (by kernel_rfl) (by kernel_rfl) (by kernel_rfl) (by exact fun _ _ _ h => h) (Or.inl ⟨by rfl, ?_⟩) hOn ?_
  rotate_left
  focus (intro W hSW; go_simp; try with_reducible rfl)
  try simp only [Act.put, List.setIfInBounds_toArray, List.set_cons_zero, List.set_cons_succ]
  refine wpAnyH_ready (rs := [2]) (by kernel_rfl) (by simp) ?_
  refine AllReadyH.cons (by simp only [List.getElem?_toArray, List.getElem?_cons_succ, List.getElem?_cons_zero]; rfl) (fun Kz hKz => ?_) AllReadyH.nil
  rw [if_pos (by rfl)]
  (with_reducible refine wp_store_rowK 56 (.tmp 4) (.tmp 19) rfl (w.heap.size + 2) #[.slice none 0 0, .slice none 0 0] #[.slice none 0 0, .slice none 0 0] rfl rfl aO (by kernel_rfl) rfl (by simp [Value.oneCell']) ?_)
  intro w9 hU9
  have hS := hOn.trans (hU9.out.below (by omega))
  have hres := Lib.hid hU9.out.here
  refine hKz.out _ _ (by first | exact hS | exact Below.trans hOn (Below.mono hnew (Below.size hOn))) (fun hNext => ?_)
  clear hKz Kz hOn
  have hOn := hNext
  clear hNext
  try clear hnew
  try clear hS
  try simp only [Act.put]
  refine wpAnyH_take (i := 3) (v := ?_) (by simp only [List.getElem?_toArray, List.getElem?_cons_succ, List.getElem?_cons_zero]; rfl) (by kernel_rfl) (by kernel_rfl) (by kernel_rfl) (by exact fun _ _ _ h => h) (Or.inl ⟨by rfl, ?_⟩) hOn ?_
  rotate_left
  focus (intro W hSW; go_simp; try with_reducible rfl)
  try simp only [Act.put, List.setIfInBounds_toArray, List.set_cons_zero, List.set_cons_succ]
  refine wpAnyH_done (by kernel_rfl) ?_ _
  all_goals
    go_wp2_with fail
    refine ret_cell_tmpB rfl rfl Tryd.underlying56 rfl (by kernel_rfl) hres.out ?_
    exact hpost.out _ _ (.inr (.inl ⟨11 - 1, by decide, by decide, rfl⟩)) hOn

set_option maxRecDepth 100000 in
set_option maxHeartbeats 2000000 in
theorem kept_state (va : Value) (m : St) (x : Rc) (hx : x.Ok) (w : World) (ha : ArgS w va m) (l1 : m.its.length ≤ 1000) (l2 : m.ens.length ≤ 1000) (i : Nat) (hi : i < m.its.length) (hx1 : x.obj = (i : Int)) (h1 : m.its[i].k = true) (ea : Nat → Addr) (H : Errs 177 errGs w ea) :
    Calls Tryd.prog 36 #[va, .agg x.list.toArray] w (FolPost ea ⟨[], []⟩ 13 w) := by
  have hge := fun W (h : Below w.heap.size w W) => (num_cells (H.below h)).2.2.2.2.2.2.2.2.2.2.2.2.1
  have hcf := Lib.hid (Rc.kept0 x hx 59)
  have hc0 := fun W h => item_in va m W (ha.below h (Nat.le_refl _)) i hi l1
  rw [← hx1] at hc0
  have hok := ha.okN _ (List.getElem_mem hi)
  generalize hy : m.its[i] = y at *
  obtain ⟨XA, hXA⟩ : ∃ XA, XA = y.list.toArray := ⟨_, rfl⟩
  have hk73 : ∀ (W : World) b, W.heap[b]? = some (.cells XA 93 (0, 0)) → W.cell? ⟨b, 73, none⟩ = some (.bool y.k) := fun W b h => by rw [cell_of_block h, hXA, List.getElem?_toArray]; exact It.c73 hok
  have iA : (Tryd.prog.info? 93).map (·.size) = some XA.size := by rw [hXA, It.size hok]; kernel_rfl
  have zA : Tryd.zeroCells93.size = XA.size := by rw [hXA, It.size hok]; kernel_rfl
  have h1A : XA.all (·.oneCell') = true := by rw [hXA]; exact Go.Proofs.YtpehdoepcpmnbaaDoor.all_one (It.list_one _)
  rw [← hXA] at hc0
  obtain ⟨⟨an, cn, av, cv, rfl, hN, hN1, hN2, hV, hV1, hV2⟩, okN, okV⟩ := ha
  obtain ⟨N, hNl⟩ : ∃ N, N = m.its.length := ⟨_, rfl⟩
  obtain ⟨V, hVl⟩ : ∃ V, V = m.ens.length := ⟨_, rfl⟩
  rw [← hNl, ← hVl] at hc0
  rw [← hNl, ← hVl]
  generalize hRR : x.list.toArray = R at *
  obtain ⟨aS, aR, aO, hs3, hB⟩ := three_boxes w #[.slice an N cn, .slice av V cv] R #[.slice none 0 0, .slice none 0 0] 56 59 56 _ rfl
  obtain ⟨w3, hw3⟩ : ∃ w3, w3 = ((w.alloc (.cells #[.slice an N cn, .slice av V cv] 56)).alloc (.cells R 59)).alloc (.cells #[.slice none 0 0, .slice none 0 0] 56) := ⟨_, rfl⟩
  have s0 := cell_of_block aS 0
  have s1 := cell_of_block aS 1
  obtain ⟨q0, q1, q2, q3, q4, q5, q6, q7⟩ := hcf.out _ _ aR
  rw [← hw3] at aS aR aO hB
  have hpost : Hid (∀ W v, ErrIs ea W v 13 → Below w.heap.size w W → FolPost ea ⟨[], []⟩ 13 w (.returned (.tuple #[.agg #[.slice none 0 0, .slice none 0 0], v])) W) := Lib.hid (fun W v h1 h2 => ⟨_, _, rfl, argS_nil W, h1, h2, freshS_nil _⟩)
  rw [h1] at hk73
  replace hk73 := Lib.hid hk73
  generalize x.obj = vo at *
  generalize x.id = vi at *
  generalize x.way = vw at *
  generalize x.index = vx at *
  generalize x.name = vn at *
  replace hc0 := Lib.hid hc0
  replace hge := Lib.hid hge
  replace aS := Lib.hid aS
  replace aR := Lib.hid aR
  replace aO := Lib.hid aO
  replace hB := Lib.hid hB
  replace hw3 := Lib.hid hw3
  clear hRR hN hV hN1 hN2 hV1 hV2 okN okV hNl hVl hXA l1 l2 hs3 hx1
  go_enter Tryd.func36, Tryd.ntmps36
  go_wp2_with fail
  rw [← hw3.out]
  with_reducible refine (hc0.out _ hB.out).mono ?_
  rintro e w4 ⟨rfl, hb⟩
  replace aS := Lib.hid ((hb.block _ (block_lt aS.out)).trans aS.out)
  replace aR := Lib.hid ((hb.block _ (block_lt aR.out)).trans aR.out)
  replace aO := Lib.hid ((hb.block _ (block_lt aO.out)).trans aO.out)
  replace hB := Lib.hid (hB.out.trans (hb.mono hB.out.size))
  clear hb s0 s1 q0 q1 q2 q3 q4 q5 q6 q7
  have s0 := cell_of_block aS.out 0
  have s1 := cell_of_block aS.out 1
  obtain ⟨q0, q1, q2, q3, q4, q5, q6, q7⟩ := hcf.out _ _ aR.out
  have hZ4 := Lib.hid (heap_alloc_new w4 (.cells Tryd.zeroCells93 93))
  go_wp2_with ((with_reducible show wpList _ _ _ (Oper.mk _ (Op.store 93 (.tmp 6) _) _ _ _ _ :: _) _ _); (refine wpList_store_row rfl 93 (.tmp 6) (.tmp 14) rfl w4.heap.size _ XA rfl rfl hZ4 iA zA h1A ?_); intro w5 hU5; have hb5 : Below w4.heap.size w4 w5 := (Below.alloc (Below.refl w4.heap.size w4) (Nat.le_refl _) _).trans (hU5.out.below (Nat.le_refl _)); have aX := Lib.hid hU5.out.here; replace aS := Lib.hid ((hb5.block _ (block_lt aS.out)).trans aS.out); replace aR := Lib.hid ((hb5.block _ (block_lt aR.out)).trans aR.out); replace aO := Lib.hid ((hb5.block _ (block_lt aO.out)).trans aO.out); replace hB := Lib.hid (hB.out.trans (hb5.mono hB.out.size)); clear s0 s1 q0 q1 q2 q3 q4 q5 q6 q7 hb5; have s0 := cell_of_block aS.out 0; have s1 := cell_of_block aS.out 1; obtain ⟨q0, q1, q2, q3, q4, q5, q6, q7⟩ := hcf.out _ _ aR.out; have y73 := hk73.out _ _ aX.out)
  have hd0 : Hid (Below w.heap.size w w5.drew) := Lib.hid hB.out.drew
  replace aO : Hid (w5.drew.heap[w.heap.size + 2]? = some (.cells #[.slice none 0 0, .slice none 0 0] 56 (0, 0))) := Lib.hid aO.out
  have hcW := fun W h => hge.out W h
  refine wp_region_held_drew (S := (Below w.heap.size w)) (by kernel_rfl) hd0.out (fun hOn => ?_)
  generalize World.drew w5 = wd at *
  refine wpAnyH_take (i := 0) (v := ?_) (by simp only [List.getElem?_toArray, List.getElem?_cons_zero]; rfl) (by kernel_rfl) (by kernel_rfl) (by kernel_rfl) (by exact fun _ _ _ h => h) (Or.inl ⟨by rfl, ?_⟩) hOn ?_
  rotate_left
  focus (intro W hSW; go_simp; try with_reducible rfl)
  try simp only [Act.put, List.setIfInBounds_toArray, List.set_cons_zero, List.set_cons_succ]
  refine wpAnyH_take (i := 1) (v := ?_) (by simp only [List.getElem?_toArray, List.getElem?_cons_succ, List.getElem?_cons_zero]; rfl) (by kernel_rfl) (by kernel_rfl) (by kernel_rfl) (by exact fun _ _ _ h => h) (Or.inl ⟨by rfl, ?_⟩) hOn ?_
  rotate_left
  focus (intro W hSW; go_simp; try with_reducible rfl)
  try simp only [Act.put, List.setIfInBounds_toArray, List.set_cons_zero, List.set_cons_succ]
  refine wpAnyH_ready (rs := [2]) (by kernel_rfl) (by simp) ?_
  refine AllReadyH.cons (by simp only [List.getElem?_toArray, List.getElem?_cons_succ, List.getElem?_cons_zero]; rfl) (fun Kz hKz => ?_) AllReadyH.nil
  rw [if_pos (by rfl)]
  (with_reducible refine wp_store_rowK 56 (.tmp 4) (.tmp 24) rfl (w.heap.size + 2) #[.slice none 0 0, .slice none 0 0] #[.slice none 0 0, .slice none 0 0] rfl rfl aO (by kernel_rfl) rfl (by simp [Value.oneCell']) ?_)
  intro w9 hU9
  have hS := hOn.trans (hU9.out.below (by omega))
  have hres := Lib.hid hU9.out.here
  refine hKz.out _ _ (by first | exact hS | exact Below.trans hOn (Below.mono hnew (Below.size hOn))) (fun hNext => ?_)
  clear hKz Kz hOn
  have hOn := hNext
  clear hNext
  try clear hnew
  try clear hS
  try simp only [Act.put]
  refine wpAnyH_take (i := 3) (v := ?_) (by simp only [List.getElem?_toArray, List.getElem?_cons_succ, List.getElem?_cons_zero]; rfl) (by kernel_rfl) (by kernel_rfl) (by kernel_rfl) (by exact fun _ _ _ h => h) (Or.inl ⟨by rfl, ?_⟩) hOn ?_
  rotate_left
  focus (intro W hSW; go_simp; try with_reducible rfl)
  try simp only [Act.put, List.setIfInBounds_toArray, List.set_cons_zero, List.set_cons_succ]
  refine wpAnyH_done (by kernel_rfl) ?_ _
  all_goals
    go_wp2_with fail
    refine ret_cell_tmpB rfl rfl Tryd.underlying56 rfl (by kernel_rfl) hres.out ?_
    exact hpost.out _ _ (.inr (.inl ⟨13 - 1, by decide, by decide, rfl⟩)) hOn

set_option maxRecDepth 100000 in
set_option maxHeartbeats 2000000 in
theorem asked_none (va : Value) (m : St) (x : Rc) (hx : x.Ok) (w : World) (ha : ArgS w va m) (l1 : m.its.length ≤ 1000) (l2 : m.ens.length ≤ 1000) (h1 : ¬ (0 ≤ x.obj ∧ x.obj < m.its.length)) (ea : Nat → Addr) (H : Errs 177 errGs w ea) :
    Calls Tryd.prog 35 #[va, .agg x.list.toArray] w (FolPost ea ⟨[], []⟩ 11 w) := by
  have hge := fun W (h : Below w.heap.size w W) => (num_cells (H.below h)).2.2.2.2.2.2.2.2.2.2.1
  have hcf := Lib.hid (Rc.kept0 x hx 59)
  have hc0 := fun W h => item_out va m W (ha.below h (Nat.le_refl _)) x.obj h1 l1
  have hok : (default : It).Ok := It.default_ok
  obtain ⟨XA, hXA⟩ : ∃ XA, XA = (default : It).list.toArray := ⟨_, rfl⟩
  have iA : (Tryd.prog.info? 93).map (·.size) = some XA.size := by rw [hXA, It.size hok]; kernel_rfl
  have zA : Tryd.zeroCells93.size = XA.size := by rw [hXA, It.size hok]; kernel_rfl
  have h1A : XA.all (·.oneCell') = true := by rw [hXA]; exact Go.Proofs.YtpehdoepcpmnbaaDoor.all_one (It.list_one _)
  rw [← hXA] at hc0
  obtain ⟨⟨an, cn, av, cv, rfl, hN, hN1, hN2, hV, hV1, hV2⟩, okN, okV⟩ := ha
  obtain ⟨N, hNl⟩ : ∃ N, N = m.its.length := ⟨_, rfl⟩
  obtain ⟨V, hVl⟩ : ∃ V, V = m.ens.length := ⟨_, rfl⟩
  rw [← hNl, ← hVl] at hc0
  rw [← hNl, ← hVl]
  generalize hRR : x.list.toArray = R at *
  obtain ⟨aS, aR, aO, hs3, hB⟩ := three_boxes w #[.slice an N cn, .slice av V cv] R #[.slice none 0 0, .slice none 0 0] 56 59 56 _ rfl
  obtain ⟨w3, hw3⟩ : ∃ w3, w3 = ((w.alloc (.cells #[.slice an N cn, .slice av V cv] 56)).alloc (.cells R 59)).alloc (.cells #[.slice none 0 0, .slice none 0 0] 56) := ⟨_, rfl⟩
  have s0 := cell_of_block aS 0
  have s1 := cell_of_block aS 1
  obtain ⟨q0, q1, q2, q3, q4, q5, q6, q7⟩ := hcf.out _ _ aR
  rw [← hw3] at aS aR aO hB
  have hpost : Hid (∀ W v, ErrIs ea W v 11 → Below w.heap.size w W → FolPost ea ⟨[], []⟩ 11 w (.returned (.tuple #[.agg #[.slice none 0 0, .slice none 0 0], v])) W) := Lib.hid (fun W v h1 h2 => ⟨_, _, rfl, argS_nil W, h1, h2, freshS_nil _⟩)
  generalize x.obj = vo at *
  generalize x.id = vi at *
  generalize x.way = vw at *
  generalize x.index = vx at *
  generalize x.name = vn at *
  replace hc0 := Lib.hid hc0
  replace hge := Lib.hid hge
  replace aS := Lib.hid aS
  replace aR := Lib.hid aR
  replace aO := Lib.hid aO
  replace hB := Lib.hid hB
  replace hw3 := Lib.hid hw3
  clear hRR hN hV hN1 hN2 hV1 hV2 okN okV hNl hVl hXA l1 l2 hs3 h1
  go_enter Tryd.func35, Tryd.ntmps35
  go_wp2_with fail
  rw [← hw3.out]
  with_reducible refine (hc0.out _ hB.out).mono ?_
  rintro e w4 ⟨rfl, hb⟩
  replace aS := Lib.hid ((hb.block _ (block_lt aS.out)).trans aS.out)
  replace aR := Lib.hid ((hb.block _ (block_lt aR.out)).trans aR.out)
  replace aO := Lib.hid ((hb.block _ (block_lt aO.out)).trans aO.out)
  replace hB := Lib.hid (hB.out.trans (hb.mono hB.out.size))
  clear hb s0 s1 q0 q1 q2 q3 q4 q5 q6 q7
  have s0 := cell_of_block aS.out 0
  have s1 := cell_of_block aS.out 1
  obtain ⟨q0, q1, q2, q3, q4, q5, q6, q7⟩ := hcf.out _ _ aR.out
  have hZ4 := Lib.hid (heap_alloc_new w4 (.cells Tryd.zeroCells93 93))
  go_wp2_with ((with_reducible show wpList _ _ _ (Oper.mk _ (Op.store 93 (.tmp 6) _) _ _ _ _ :: _) _ _); (refine wpList_store_row rfl 93 (.tmp 6) (.tmp 16) rfl w4.heap.size _ XA rfl rfl hZ4 iA zA h1A ?_); intro w5 hU5; have hb5 : Below w4.heap.size w4 w5 := (Below.alloc (Below.refl w4.heap.size w4) (Nat.le_refl _) _).trans (hU5.out.below (Nat.le_refl _)); have aX := Lib.hid hU5.out.here; replace aS := Lib.hid ((hb5.block _ (block_lt aS.out)).trans aS.out); replace aR := Lib.hid ((hb5.block _ (block_lt aR.out)).trans aR.out); replace aO := Lib.hid ((hb5.block _ (block_lt aO.out)).trans aO.out); replace hB := Lib.hid (hB.out.trans (hb5.mono hB.out.size)); clear s0 s1 q0 q1 q2 q3 q4 q5 q6 q7 hb5; have s0 := cell_of_block aS.out 0; have s1 := cell_of_block aS.out 1; obtain ⟨q0, q1, q2, q3, q4, q5, q6, q7⟩ := hcf.out _ _ aR.out)
  have hd0 : Hid (Below w.heap.size w w5.drew) := Lib.hid hB.out.drew
  replace aO : Hid (w5.drew.heap[w.heap.size + 2]? = some (.cells #[.slice none 0 0, .slice none 0 0] 56 (0, 0))) := Lib.hid aO.out
  have hcW := fun W h => hge.out W h
  refine wp_region_held_drew (S := (Below w.heap.size w)) (by kernel_rfl) hd0.out (fun hOn => ?_)
  generalize World.drew w5 = wd at *
  refine wpAnyH_take (i := 0) (v := ?_) (by simp only [List.getElem?_toArray, List.getElem?_cons_zero]; rfl) (by kernel_rfl) (by kernel_rfl) (by kernel_rfl) (by exact fun _ _ _ h => h) (Or.inl ⟨by rfl, ?_⟩) hOn ?_
  rotate_left
  focus (intro W hSW; go_simp; try with_reducible rfl)
  try simp only [Act.put, List.setIfInBounds_toArray, List.set_cons_zero, List.set_cons_succ]
  refine wpAnyH_take (i := 1) (v := ?_) (by simp only [List.getElem?_toArray, List.getElem?_cons_succ, List.getElem?_cons_zero]; rfl) (by kernel_rfl) (by kernel_rfl) (by kernel_rfl) (by exact fun _ _ _ h => h) (Or.inl ⟨by rfl, ?_⟩) hOn ?_
  rotate_left
  focus (intro W hSW; go_simp; try with_reducible rfl)
  try simp only [Act.put, List.setIfInBounds_toArray, List.set_cons_zero, List.set_cons_succ]
  refine wpAnyH_ready (rs := [2]) (by kernel_rfl) (by simp) ?_
  refine AllReadyH.cons (by simp only [List.getElem?_toArray, List.getElem?_cons_succ, List.getElem?_cons_zero]; rfl) (fun Kz hKz => ?_) AllReadyH.nil
  rw [if_pos (by rfl)]
  (with_reducible refine wp_store_rowK 56 (.tmp 4) (.tmp 20) rfl (w.heap.size + 2) #[.slice none 0 0, .slice none 0 0] #[.slice none 0 0, .slice none 0 0] rfl rfl aO (by kernel_rfl) rfl (by simp [Value.oneCell']) ?_)
  intro w9 hU9
  have hS := hOn.trans (hU9.out.below (by omega))
  have hres := Lib.hid hU9.out.here
  refine hKz.out _ _ (by first | exact hS | exact Below.trans hOn (Below.mono hnew (Below.size hOn))) (fun hNext => ?_)
  clear hKz Kz hOn
  have hOn := hNext
  clear hNext
  try clear hnew
  try clear hS
  try simp only [Act.put]
  refine wpAnyH_take (i := 3) (v := ?_) (by simp only [List.getElem?_toArray, List.getElem?_cons_succ, List.getElem?_cons_zero]; rfl) (by kernel_rfl) (by kernel_rfl) (by kernel_rfl) (by exact fun _ _ _ h => h) (Or.inl ⟨by rfl, ?_⟩) hOn ?_
  rotate_left
  focus (intro W hSW; go_simp; try with_reducible rfl)
  try simp only [Act.put, List.setIfInBounds_toArray, List.set_cons_zero, List.set_cons_succ]
  refine wpAnyH_done (by kernel_rfl) ?_ _
  all_goals
    go_wp2_with fail
    refine ret_cell_tmpB rfl rfl Tryd.underlying56 rfl (by kernel_rfl) hres.out ?_
    exact hpost.out _ _ (.inr (.inl ⟨11 - 1, by decide, by decide, rfl⟩)) hOn

set_option maxRecDepth 100000 in
set_option maxHeartbeats 2000000 in
theorem asked_state (va : Value) (m : St) (x : Rc) (hx : x.Ok) (w : World) (ha : ArgS w va m) (l1 : m.its.length ≤ 1000) (l2 : m.ens.length ≤ 1000) (i : Nat) (hi : i < m.its.length) (hx1 : x.obj = (i : Int)) (h1 : m.its[i].k = false) (ea : Nat → Addr) (H : Errs 177 errGs w ea) :
    Calls Tryd.prog 35 #[va, .agg x.list.toArray] w (FolPost ea ⟨[], []⟩ 13 w) := by
  have hge := fun W (h : Below w.heap.size w W) => (num_cells (H.below h)).2.2.2.2.2.2.2.2.2.2.2.2.1
  have hcf := Lib.hid (Rc.kept0 x hx 59)
  have hc0 := fun W h => item_in va m W (ha.below h (Nat.le_refl _)) i hi l1
  rw [← hx1] at hc0
  have hok := ha.okN _ (List.getElem_mem hi)
  generalize hy : m.its[i] = y at *
  obtain ⟨XA, hXA⟩ : ∃ XA, XA = y.list.toArray := ⟨_, rfl⟩
  have hk73 : ∀ (W : World) b, W.heap[b]? = some (.cells XA 93 (0, 0)) → W.cell? ⟨b, 73, none⟩ = some (.bool y.k) := fun W b h => by rw [cell_of_block h, hXA, List.getElem?_toArray]; exact It.c73 hok
  have hnx := Lib.hid (fun W => next_any y hok x.way W)
  have iA : (Tryd.prog.info? 93).map (·.size) = some XA.size := by rw [hXA, It.size hok]; kernel_rfl
  have zA : Tryd.zeroCells93.size = XA.size := by rw [hXA, It.size hok]; kernel_rfl
  have h1A : XA.all (·.oneCell') = true := by rw [hXA]; exact Go.Proofs.YtpehdoepcpmnbaaDoor.all_one (It.list_one _)
  rw [← hXA] at hc0 hnx
  obtain ⟨⟨an, cn, av, cv, rfl, hN, hN1, hN2, hV, hV1, hV2⟩, okN, okV⟩ := ha
  obtain ⟨N, hNl⟩ : ∃ N, N = m.its.length := ⟨_, rfl⟩
  obtain ⟨V, hVl⟩ : ∃ V, V = m.ens.length := ⟨_, rfl⟩
  rw [← hNl, ← hVl] at hc0
  rw [← hNl, ← hVl]
  generalize hRR : x.list.toArray = R at *
  obtain ⟨aS, aR, aO, hs3, hB⟩ := three_boxes w #[.slice an N cn, .slice av V cv] R #[.slice none 0 0, .slice none 0 0] 56 59 56 _ rfl
  obtain ⟨w3, hw3⟩ : ∃ w3, w3 = ((w.alloc (.cells #[.slice an N cn, .slice av V cv] 56)).alloc (.cells R 59)).alloc (.cells #[.slice none 0 0, .slice none 0 0] 56) := ⟨_, rfl⟩
  have s0 := cell_of_block aS 0
  have s1 := cell_of_block aS 1
  obtain ⟨q0, q1, q2, q3, q4, q5, q6, q7⟩ := hcf.out _ _ aR
  rw [← hw3] at aS aR aO hB
  have hpost : Hid (∀ W v, ErrIs ea W v 13 → Below w.heap.size w W → FolPost ea ⟨[], []⟩ 13 w (.returned (.tuple #[.agg #[.slice none 0 0, .slice none 0 0], v])) W) := Lib.hid (fun W v h1 h2 => ⟨_, _, rfl, argS_nil W, h1, h2, freshS_nil _⟩)
  obtain ⟨ix, lf, hnx2⟩ : ∃ ix lf, nextI y x.way = (ix, lf) := ⟨_, _, rfl⟩
  rw [hnx2] at hnx
  replace hnx2 := Lib.hid hnx2
  rw [h1] at hk73
  replace hk73 := Lib.hid hk73
  generalize x.obj = vo at *
  generalize x.id = vi at *
  generalize x.way = vw at *
  generalize x.index = vx at *
  generalize x.name = vn at *
  replace hc0 := Lib.hid hc0
  replace hge := Lib.hid hge
  replace aS := Lib.hid aS
  replace aR := Lib.hid aR
  replace aO := Lib.hid aO
  replace hB := Lib.hid hB
  replace hw3 := Lib.hid hw3
  clear hRR hN hV hN1 hN2 hV1 hV2 okN okV hNl hVl hXA l1 l2 hs3 hx1
  go_enter Tryd.func35, Tryd.ntmps35
  go_wp2_with fail
  rw [← hw3.out]
  with_reducible refine (hc0.out _ hB.out).mono ?_
  rintro e w4 ⟨rfl, hb⟩
  replace aS := Lib.hid ((hb.block _ (block_lt aS.out)).trans aS.out)
  replace aR := Lib.hid ((hb.block _ (block_lt aR.out)).trans aR.out)
  replace aO := Lib.hid ((hb.block _ (block_lt aO.out)).trans aO.out)
  replace hB := Lib.hid (hB.out.trans (hb.mono hB.out.size))
  clear hb s0 s1 q0 q1 q2 q3 q4 q5 q6 q7
  have s0 := cell_of_block aS.out 0
  have s1 := cell_of_block aS.out 1
  obtain ⟨q0, q1, q2, q3, q4, q5, q6, q7⟩ := hcf.out _ _ aR.out
  have hZ4 := Lib.hid (heap_alloc_new w4 (.cells Tryd.zeroCells93 93))
  go_wp2_with (first
    | ((with_reducible show wpList _ _ _ (Oper.mk _ (Op.store 93 (.tmp 6) _) _ _ _ _ :: _) _ _); (refine wpList_store_row rfl 93 (.tmp 6) (.tmp 16) rfl w4.heap.size _ XA rfl rfl hZ4 iA zA h1A ?_); intro w5 hU5; have hb5 : Below w4.heap.size w4 w5 := (Below.alloc (Below.refl w4.heap.size w4) (Nat.le_refl _) _).trans (hU5.out.below (Nat.le_refl _)); have aX := Lib.hid hU5.out.here; replace aS := Lib.hid ((hb5.block _ (block_lt aS.out)).trans aS.out); replace aR := Lib.hid ((hb5.block _ (block_lt aR.out)).trans aR.out); replace aO := Lib.hid ((hb5.block _ (block_lt aO.out)).trans aO.out); replace hB := Lib.hid (hB.out.trans (hb5.mono hB.out.size)); clear s0 s1 q0 q1 q2 q3 q4 q5 q6 q7 hb5; have s0 := cell_of_block aS.out 0; have s1 := cell_of_block aS.out 1; obtain ⟨q0, q1, q2, q3, q4, q5, q6, q7⟩ := hcf.out _ _ aR.out; have y73 := hk73.out _ _ aX.out)
    | ((with_reducible show wpList _ _ _ (Oper.mk _ (Op.load 93 (.tmp 6)) _ _ _ _ :: _) _ _); refine wpList_load_row rfl 93 (.tmp 6) rfl w4.heap.size XA _ rfl aX Tryd.underlying93 rfl iA ?_))
  with_reducible refine (hnx.out _).mono ?_
  rintro e w6 ⟨rfl, hb⟩
  replace aX := Lib.hid ((hb.block _ (block_lt aX.out)).trans aX.out)
  replace aS := Lib.hid ((hb.block _ (block_lt aS.out)).trans aS.out)
  replace aR := Lib.hid ((hb.block _ (block_lt aR.out)).trans aR.out)
  replace aO := Lib.hid ((hb.block _ (block_lt aO.out)).trans aO.out)
  replace hB := Lib.hid (hB.out.trans (hb.mono hB.out.size))
  clear hb s0 s1 q0 q1 q2 q3 q4 q5 q6 q7 y73
  have s0 := cell_of_block aS.out 0
  have s1 := cell_of_block aS.out 1
  obtain ⟨q0, q1, q2, q3, q4, q5, q6, q7⟩ := hcf.out _ _ aR.out
  have y73 := hk73.out _ _ aX.out
  go_wp2_with fail
  have hd0 : Hid (Below w.heap.size w w6.drew) := Lib.hid hB.out.drew
  replace aO : Hid (w6.drew.heap[w.heap.size + 2]? = some (.cells #[.slice none 0 0, .slice none 0 0] 56 (0, 0))) := Lib.hid aO.out
  have hcW := fun W h => hge.out W h
  refine wp_region_held_drew (S := (Below w.heap.size w)) (by kernel_rfl) hd0.out (fun hOn => ?_)
  generalize World.drew w6 = wd at *
  refine wpAnyH_take (i := 0) (v := ?_) (by simp only [List.getElem?_toArray, List.getElem?_cons_zero]; rfl) (by kernel_rfl) (by kernel_rfl) (by kernel_rfl) (by exact fun _ _ _ h => h) (Or.inl ⟨by rfl, ?_⟩) hOn ?_
  rotate_left
  focus (intro W hSW; go_simp; try with_reducible rfl)
  try simp only [Act.put, List.setIfInBounds_toArray, List.set_cons_zero, List.set_cons_succ]
  refine wpAnyH_take (i := 1) (v := ?_) (by simp only [List.getElem?_toArray, List.getElem?_cons_succ, List.getElem?_cons_zero]; rfl) (by kernel_rfl) (by kernel_rfl) (by kernel_rfl) (by exact fun _ _ _ h => h) (Or.inl ⟨by rfl, ?_⟩) hOn ?_
  rotate_left
  focus (intro W hSW; go_simp; try with_reducible rfl)
  try simp only [Act.put, List.setIfInBounds_toArray, List.set_cons_zero, List.set_cons_succ]
  refine wpAnyH_ready (rs := [2]) (by kernel_rfl) (by simp) ?_
  refine AllReadyH.cons (by simp only [List.getElem?_toArray, List.getElem?_cons_succ, List.getElem?_cons_zero]; rfl) (fun Kz hKz => ?_) AllReadyH.nil
  rw [if_pos (by rfl)]
  (with_reducible refine wp_store_rowK 56 (.tmp 4) (.tmp 33) rfl (w.heap.size + 2) #[.slice none 0 0, .slice none 0 0] #[.slice none 0 0, .slice none 0 0] rfl rfl aO (by kernel_rfl) rfl (by simp [Value.oneCell']) ?_)
  intro w9 hU9
  have hS := hOn.trans (hU9.out.below (by omega))
  have hres := Lib.hid hU9.out.here
  refine hKz.out _ _ (by first | exact hS | exact Below.trans hOn (Below.mono hnew (Below.size hOn))) (fun hNext => ?_)
  clear hKz Kz hOn
  have hOn := hNext
  clear hNext
  try clear hnew
  try clear hS
  try simp only [Act.put]
  refine wpAnyH_take (i := 3) (v := ?_) (by simp only [List.getElem?_toArray, List.getElem?_cons_succ, List.getElem?_cons_zero]; rfl) (by kernel_rfl) (by kernel_rfl) (by kernel_rfl) (by exact fun _ _ _ h => h) (Or.inl ⟨by rfl, ?_⟩) hOn ?_
  rotate_left
  focus (intro W hSW; go_simp; try with_reducible rfl)
  try simp only [Act.put, List.setIfInBounds_toArray, List.set_cons_zero, List.set_cons_succ]
  refine wpAnyH_done (by kernel_rfl) ?_ _
  all_goals
    go_wp2_with fail
    refine ret_cell_tmpB rfl rfl Tryd.underlying56 rfl (by kernel_rfl) hres.out ?_
    exact hpost.out _ _ (.inr (.inl ⟨13 - 1, by decide, by decide, rfl⟩)) hOn

set_option maxRecDepth 100000 in
set_option maxHeartbeats 2000000 in
theorem asked_budget (va : Value) (m : St) (x : Rc) (hx : x.Ok) (w : World) (ha : ArgS w va m) (l1 : m.its.length ≤ 1000) (l2 : m.ens.length ≤ 1000) (i : Nat) (hi : i < m.its.length) (hx1 : x.obj = (i : Int)) (h1 : m.its[i].k = true) (h2 : (nextI m.its[i] x.way).2 = false) (ea : Nat → Addr) (H : Errs 177 errGs w ea) :
    Calls Tryd.prog 35 #[va, .agg x.list.toArray] w (FolPost ea ⟨[], []⟩ 18 w) := by
  have hge := fun W (h : Below w.heap.size w W) => (num_cells (H.below h)).2.2.2.2.2.2.2.2.2.2.2.2.2.2.2.2.2.1
  have hcf := Lib.hid (Rc.kept0 x hx 59)
  have hc0 := fun W h => item_in va m W (ha.below h (Nat.le_refl _)) i hi l1
  rw [← hx1] at hc0
  have hok := ha.okN _ (List.getElem_mem hi)
  generalize hy : m.its[i] = y at *
  obtain ⟨XA, hXA⟩ : ∃ XA, XA = y.list.toArray := ⟨_, rfl⟩
  have hk73 : ∀ (W : World) b, W.heap[b]? = some (.cells XA 93 (0, 0)) → W.cell? ⟨b, 73, none⟩ = some (.bool y.k) := fun W b h => by rw [cell_of_block h, hXA, List.getElem?_toArray]; exact It.c73 hok
  have hnx := Lib.hid (fun W => next_any y hok x.way W)
  have iA : (Tryd.prog.info? 93).map (·.size) = some XA.size := by rw [hXA, It.size hok]; kernel_rfl
  have zA : Tryd.zeroCells93.size = XA.size := by rw [hXA, It.size hok]; kernel_rfl
  have h1A : XA.all (·.oneCell') = true := by rw [hXA]; exact Go.Proofs.YtpehdoepcpmnbaaDoor.all_one (It.list_one _)
  rw [← hXA] at hc0 hnx
  obtain ⟨⟨an, cn, av, cv, rfl, hN, hN1, hN2, hV, hV1, hV2⟩, okN, okV⟩ := ha
  obtain ⟨N, hNl⟩ : ∃ N, N = m.its.length := ⟨_, rfl⟩
  obtain ⟨V, hVl⟩ : ∃ V, V = m.ens.length := ⟨_, rfl⟩
  rw [← hNl, ← hVl] at hc0
  rw [← hNl, ← hVl]
  generalize hRR : x.list.toArray = R at *
  obtain ⟨aS, aR, aO, hs3, hB⟩ := three_boxes w #[.slice an N cn, .slice av V cv] R #[.slice none 0 0, .slice none 0 0] 56 59 56 _ rfl
  obtain ⟨w3, hw3⟩ : ∃ w3, w3 = ((w.alloc (.cells #[.slice an N cn, .slice av V cv] 56)).alloc (.cells R 59)).alloc (.cells #[.slice none 0 0, .slice none 0 0] 56) := ⟨_, rfl⟩
  have s0 := cell_of_block aS 0
  have s1 := cell_of_block aS 1
  obtain ⟨q0, q1, q2, q3, q4, q5, q6, q7⟩ := hcf.out _ _ aR
  rw [← hw3] at aS aR aO hB
  have hpost : Hid (∀ W v, ErrIs ea W v 18 → Below w.heap.size w W → FolPost ea ⟨[], []⟩ 18 w (.returned (.tuple #[.agg #[.slice none 0 0, .slice none 0 0], v])) W) := Lib.hid (fun W v h1 h2 => ⟨_, _, rfl, argS_nil W, h1, h2, freshS_nil _⟩)
  obtain ⟨ix, lf, hnx2⟩ : ∃ ix lf, nextI y x.way = (ix, lf) := ⟨_, _, rfl⟩
  rw [hnx2] at hnx h2
  have h2b : lf = false := h2
  clear h2
  subst h2b
  replace hnx2 := Lib.hid hnx2
  rw [h1] at hk73
  replace hk73 := Lib.hid hk73
  generalize x.obj = vo at *
  generalize x.id = vi at *
  generalize x.way = vw at *
  generalize x.index = vx at *
  generalize x.name = vn at *
  replace hc0 := Lib.hid hc0
  replace hge := Lib.hid hge
  replace aS := Lib.hid aS
  replace aR := Lib.hid aR
  replace aO := Lib.hid aO
  replace hB := Lib.hid hB
  replace hw3 := Lib.hid hw3
  clear hRR hN hV hN1 hN2 hV1 hV2 okN okV hNl hVl hXA l1 l2 hs3 hx1
  go_enter Tryd.func35, Tryd.ntmps35
  go_wp2_with fail
  rw [← hw3.out]
  with_reducible refine (hc0.out _ hB.out).mono ?_
  rintro e w4 ⟨rfl, hb⟩
  replace aS := Lib.hid ((hb.block _ (block_lt aS.out)).trans aS.out)
  replace aR := Lib.hid ((hb.block _ (block_lt aR.out)).trans aR.out)
  replace aO := Lib.hid ((hb.block _ (block_lt aO.out)).trans aO.out)
  replace hB := Lib.hid (hB.out.trans (hb.mono hB.out.size))
  clear hb s0 s1 q0 q1 q2 q3 q4 q5 q6 q7
  have s0 := cell_of_block aS.out 0
  have s1 := cell_of_block aS.out 1
  obtain ⟨q0, q1, q2, q3, q4, q5, q6, q7⟩ := hcf.out _ _ aR.out
  have hZ4 := Lib.hid (heap_alloc_new w4 (.cells Tryd.zeroCells93 93))
  go_wp2_with (first
    | ((with_reducible show wpList _ _ _ (Oper.mk _ (Op.store 93 (.tmp 6) _) _ _ _ _ :: _) _ _); (refine wpList_store_row rfl 93 (.tmp 6) (.tmp 16) rfl w4.heap.size _ XA rfl rfl hZ4 iA zA h1A ?_); intro w5 hU5; have hb5 : Below w4.heap.size w4 w5 := (Below.alloc (Below.refl w4.heap.size w4) (Nat.le_refl _) _).trans (hU5.out.below (Nat.le_refl _)); have aX := Lib.hid hU5.out.here; replace aS := Lib.hid ((hb5.block _ (block_lt aS.out)).trans aS.out); replace aR := Lib.hid ((hb5.block _ (block_lt aR.out)).trans aR.out); replace aO := Lib.hid ((hb5.block _ (block_lt aO.out)).trans aO.out); replace hB := Lib.hid (hB.out.trans (hb5.mono hB.out.size)); clear s0 s1 q0 q1 q2 q3 q4 q5 q6 q7 hb5; have s0 := cell_of_block aS.out 0; have s1 := cell_of_block aS.out 1; obtain ⟨q0, q1, q2, q3, q4, q5, q6, q7⟩ := hcf.out _ _ aR.out; have y73 := hk73.out _ _ aX.out)
    | ((with_reducible show wpList _ _ _ (Oper.mk _ (Op.load 93 (.tmp 6)) _ _ _ _ :: _) _ _); refine wpList_load_row rfl 93 (.tmp 6) rfl w4.heap.size XA _ rfl aX Tryd.underlying93 rfl iA ?_))
  with_reducible refine (hnx.out _).mono ?_
  rintro e w6 ⟨rfl, hb⟩
  replace aX := Lib.hid ((hb.block _ (block_lt aX.out)).trans aX.out)
  replace aS := Lib.hid ((hb.block _ (block_lt aS.out)).trans aS.out)
  replace aR := Lib.hid ((hb.block _ (block_lt aR.out)).trans aR.out)
  replace aO := Lib.hid ((hb.block _ (block_lt aO.out)).trans aO.out)
  replace hB := Lib.hid (hB.out.trans (hb.mono hB.out.size))
  clear hb s0 s1 q0 q1 q2 q3 q4 q5 q6 q7 y73
  have s0 := cell_of_block aS.out 0
  have s1 := cell_of_block aS.out 1
  obtain ⟨q0, q1, q2, q3, q4, q5, q6, q7⟩ := hcf.out _ _ aR.out
  have y73 := hk73.out _ _ aX.out
  go_wp2_with fail
  have hd0 : Hid (Below w.heap.size w w6.drew) := Lib.hid hB.out.drew
  replace aO : Hid (w6.drew.heap[w.heap.size + 2]? = some (.cells #[.slice none 0 0, .slice none 0 0] 56 (0, 0))) := Lib.hid aO.out
  have hcW := fun W h => hge.out W h
  refine wp_region_held_drew (S := (Below w.heap.size w)) (by kernel_rfl) hd0.out (fun hOn => ?_)
  generalize World.drew w6 = wd at *
  refine wpAnyH_take (i := 0) (v := ?_) (by simp only [List.getElem?_toArray, List.getElem?_cons_zero]; rfl) (by kernel_rfl) (by kernel_rfl) (by kernel_rfl) (by exact fun _ _ _ h => h) (Or.inl ⟨by rfl, ?_⟩) hOn ?_
  rotate_left
  focus (intro W hSW; go_simp; try with_reducible rfl)
  try simp only [Act.put, List.setIfInBounds_toArray, List.set_cons_zero, List.set_cons_succ]
  refine wpAnyH_take (i := 1) (v := ?_) (by simp only [List.getElem?_toArray, List.getElem?_cons_succ, List.getElem?_cons_zero]; rfl) (by kernel_rfl) (by kernel_rfl) (by kernel_rfl) (by exact fun _ _ _ h => h) (Or.inl ⟨by rfl, ?_⟩) hOn ?_
  rotate_left
  focus (intro W hSW; go_simp; try with_reducible rfl)
  try simp only [Act.put, List.setIfInBounds_toArray, List.set_cons_zero, List.set_cons_succ]
  refine wpAnyH_ready (rs := [2]) (by kernel_rfl) (by simp) ?_
  refine AllReadyH.cons (by simp only [List.getElem?_toArray, List.getElem?_cons_succ, List.getElem?_cons_zero]; rfl) (fun Kz hKz => ?_) AllReadyH.nil
  rw [if_pos (by rfl)]
  (with_reducible refine wp_store_rowK 56 (.tmp 4) (.tmp 38) rfl (w.heap.size + 2) #[.slice none 0 0, .slice none 0 0] #[.slice none 0 0, .slice none 0 0] rfl rfl aO (by kernel_rfl) rfl (by simp [Value.oneCell']) ?_)
  intro w9 hU9
  have hS := hOn.trans (hU9.out.below (by omega))
  have hres := Lib.hid hU9.out.here
  refine hKz.out _ _ (by first | exact hS | exact Below.trans hOn (Below.mono hnew (Below.size hOn))) (fun hNext => ?_)
  clear hKz Kz hOn
  have hOn := hNext
  clear hNext
  try clear hnew
  try clear hS
  try simp only [Act.put]
  refine wpAnyH_take (i := 3) (v := ?_) (by simp only [List.getElem?_toArray, List.getElem?_cons_succ, List.getElem?_cons_zero]; rfl) (by kernel_rfl) (by kernel_rfl) (by kernel_rfl) (by exact fun _ _ _ h => h) (Or.inl ⟨by rfl, ?_⟩) hOn ?_
  rotate_left
  focus (intro W hSW; go_simp; try with_reducible rfl)
  try simp only [Act.put, List.setIfInBounds_toArray, List.set_cons_zero, List.set_cons_succ]
  refine wpAnyH_done (by kernel_rfl) ?_ _
  all_goals
    go_wp2_with fail
    refine ret_cell_tmpB rfl rfl Tryd.underlying56 rfl (by kernel_rfl) hres.out ?_
    exact hpost.out _ _ (.inr (.inl ⟨18 - 1, by decide, by decide, rfl⟩)) hOn

set_option maxRecDepth 100000 in
set_option maxHeartbeats 2000000 in
theorem asked_form1 (va : Value) (m : St) (x : Rc) (hx : x.Ok) (w : World) (ha : ArgS w va m) (l1 : m.its.length ≤ 1000) (l2 : m.ens.length ≤ 1000) (i : Nat) (hi : i < m.its.length) (hx1 : x.obj = (i : Int)) (h1 : m.its[i].k = true) (h2 : (nextI m.its[i] x.way).2 = true) (h3 : x.id ≠ (m.ens.length : Int)) (ea : Nat → Addr) (H : Errs 177 errGs w ea) :
    Calls Tryd.prog 35 #[va, .agg x.list.toArray] w (FolPost ea ⟨[], []⟩ 4 w) := by
  have hge := fun W (h : Below w.heap.size w W) => (num_cells (H.below h)).2.2.2.1
  have hcf := Lib.hid (Rc.kept0 x hx 59)
  have hc0 := fun W h => item_in va m W (ha.below h (Nat.le_refl _)) i hi l1
  rw [← hx1] at hc0
  have hok := ha.okN _ (List.getElem_mem hi)
  generalize hy : m.its[i] = y at *
  obtain ⟨XA, hXA⟩ : ∃ XA, XA = y.list.toArray := ⟨_, rfl⟩
  have hk73 : ∀ (W : World) b, W.heap[b]? = some (.cells XA 93 (0, 0)) → W.cell? ⟨b, 73, none⟩ = some (.bool y.k) := fun W b h => by rw [cell_of_block h, hXA, List.getElem?_toArray]; exact It.c73 hok
  have hnx := Lib.hid (fun W => next_any y hok x.way W)
  have iA : (Tryd.prog.info? 93).map (·.size) = some XA.size := by rw [hXA, It.size hok]; kernel_rfl
  have zA : Tryd.zeroCells93.size = XA.size := by rw [hXA, It.size hok]; kernel_rfl
  have h1A : XA.all (·.oneCell') = true := by rw [hXA]; exact Go.Proofs.YtpehdoepcpmnbaaDoor.all_one (It.list_one _)
  rw [← hXA] at hc0 hnx
  obtain ⟨⟨an, cn, av, cv, rfl, hN, hN1, hN2, hV, hV1, hV2⟩, okN, okV⟩ := ha
  obtain ⟨N, hNl⟩ : ∃ N, N = m.its.length := ⟨_, rfl⟩
  obtain ⟨V, hVl⟩ : ∃ V, V = m.ens.length := ⟨_, rfl⟩
  rw [← hNl, ← hVl] at hc0
  rw [← hNl, ← hVl]
  generalize hRR : x.list.toArray = R at *
  obtain ⟨aS, aR, aO, hs3, hB⟩ := three_boxes w #[.slice an N cn, .slice av V cv] R #[.slice none 0 0, .slice none 0 0] 56 59 56 _ rfl
  obtain ⟨w3, hw3⟩ : ∃ w3, w3 = ((w.alloc (.cells #[.slice an N cn, .slice av V cv] 56)).alloc (.cells R 59)).alloc (.cells #[.slice none 0 0, .slice none 0 0] 56) := ⟨_, rfl⟩
  have s0 := cell_of_block aS 0
  have s1 := cell_of_block aS 1
  obtain ⟨q0, q1, q2, q3, q4, q5, q6, q7⟩ := hcf.out _ _ aR
  rw [← hw3] at aS aR aO hB
  have hof : (x.id != (V : Int)) = true := by rw [hVl]; simpa using h3
  have hpost : Hid (∀ W v, ErrIs ea W v 4 → Below w.heap.size w W → FolPost ea ⟨[], []⟩ 4 w (.returned (.tuple #[.agg #[.slice none 0 0, .slice none 0 0], v])) W) := Lib.hid (fun W v h1 h2 => ⟨_, _, rfl, argS_nil W, h1, h2, freshS_nil _⟩)
  obtain ⟨ix, lf, hnx2⟩ : ∃ ix lf, nextI y x.way = (ix, lf) := ⟨_, _, rfl⟩
  rw [hnx2] at hnx h2
  have h2b : lf = true := h2
  clear h2
  subst h2b
  replace hnx2 := Lib.hid hnx2
  rw [h1] at hk73
  replace hk73 := Lib.hid hk73
  generalize x.obj = vo at *
  generalize x.id = vi at *
  generalize x.way = vw at *
  generalize x.index = vx at *
  generalize x.name = vn at *
  replace hc0 := Lib.hid hc0
  replace hge := Lib.hid hge
  replace aS := Lib.hid aS
  replace aR := Lib.hid aR
  replace aO := Lib.hid aO
  replace hB := Lib.hid hB
  replace hw3 := Lib.hid hw3
  clear hRR hN hV hN1 hN2 hV1 hV2 okN okV hNl hVl hXA l1 l2 hs3 hx1 h3
  go_enter Tryd.func35, Tryd.ntmps35
  go_wp2_with fail
  rw [← hw3.out]
  with_reducible refine (hc0.out _ hB.out).mono ?_
  rintro e w4 ⟨rfl, hb⟩
  replace aS := Lib.hid ((hb.block _ (block_lt aS.out)).trans aS.out)
  replace aR := Lib.hid ((hb.block _ (block_lt aR.out)).trans aR.out)
  replace aO := Lib.hid ((hb.block _ (block_lt aO.out)).trans aO.out)
  replace hB := Lib.hid (hB.out.trans (hb.mono hB.out.size))
  clear hb s0 s1 q0 q1 q2 q3 q4 q5 q6 q7
  have s0 := cell_of_block aS.out 0
  have s1 := cell_of_block aS.out 1
  obtain ⟨q0, q1, q2, q3, q4, q5, q6, q7⟩ := hcf.out _ _ aR.out
  have hZ4 := Lib.hid (heap_alloc_new w4 (.cells Tryd.zeroCells93 93))
  go_wp2_with (first
    | ((with_reducible show wpList _ _ _ (Oper.mk _ (Op.store 93 (.tmp 6) _) _ _ _ _ :: _) _ _); (refine wpList_store_row rfl 93 (.tmp 6) (.tmp 16) rfl w4.heap.size _ XA rfl rfl hZ4 iA zA h1A ?_); intro w5 hU5; have hb5 : Below w4.heap.size w4 w5 := (Below.alloc (Below.refl w4.heap.size w4) (Nat.le_refl _) _).trans (hU5.out.below (Nat.le_refl _)); have aX := Lib.hid hU5.out.here; replace aS := Lib.hid ((hb5.block _ (block_lt aS.out)).trans aS.out); replace aR := Lib.hid ((hb5.block _ (block_lt aR.out)).trans aR.out); replace aO := Lib.hid ((hb5.block _ (block_lt aO.out)).trans aO.out); replace hB := Lib.hid (hB.out.trans (hb5.mono hB.out.size)); clear s0 s1 q0 q1 q2 q3 q4 q5 q6 q7 hb5; have s0 := cell_of_block aS.out 0; have s1 := cell_of_block aS.out 1; obtain ⟨q0, q1, q2, q3, q4, q5, q6, q7⟩ := hcf.out _ _ aR.out; have y73 := hk73.out _ _ aX.out)
    | ((with_reducible show wpList _ _ _ (Oper.mk _ (Op.load 93 (.tmp 6)) _ _ _ _ :: _) _ _); refine wpList_load_row rfl 93 (.tmp 6) rfl w4.heap.size XA _ rfl aX Tryd.underlying93 rfl iA ?_))
  with_reducible refine (hnx.out _).mono ?_
  rintro e w6 ⟨rfl, hb⟩
  replace aX := Lib.hid ((hb.block _ (block_lt aX.out)).trans aX.out)
  replace aS := Lib.hid ((hb.block _ (block_lt aS.out)).trans aS.out)
  replace aR := Lib.hid ((hb.block _ (block_lt aR.out)).trans aR.out)
  replace aO := Lib.hid ((hb.block _ (block_lt aO.out)).trans aO.out)
  replace hB := Lib.hid (hB.out.trans (hb.mono hB.out.size))
  clear hb s0 s1 q0 q1 q2 q3 q4 q5 q6 q7 y73
  have s0 := cell_of_block aS.out 0
  have s1 := cell_of_block aS.out 1
  obtain ⟨q0, q1, q2, q3, q4, q5, q6, q7⟩ := hcf.out _ _ aR.out
  have y73 := hk73.out _ _ aX.out
  go_wp2_with fail
  have hd0 : Hid (Below w.heap.size w w6.drew) := Lib.hid hB.out.drew
  replace aO : Hid (w6.drew.heap[w.heap.size + 2]? = some (.cells #[.slice none 0 0, .slice none 0 0] 56 (0, 0))) := Lib.hid aO.out
  have hcW := fun W h => hge.out W h
  refine wp_region_held_drew (S := (Below w.heap.size w)) (by kernel_rfl) hd0.out (fun hOn => ?_)
  generalize World.drew w6 = wd at *
  refine wpAnyH_take (i := 0) (v := ?_) (by simp only [List.getElem?_toArray, List.getElem?_cons_zero]; rfl) (by kernel_rfl) (by kernel_rfl) (by kernel_rfl) (by exact fun _ _ _ h => h) (Or.inl ⟨by rfl, ?_⟩) hOn ?_
  rotate_left
  focus (intro W hSW; go_simp; try with_reducible rfl)
  try simp only [Act.put, List.setIfInBounds_toArray, List.set_cons_zero, List.set_cons_succ]
  refine wpAnyH_take (i := 1) (v := ?_) (by simp only [List.getElem?_toArray, List.getElem?_cons_succ, List.getElem?_cons_zero]; rfl) (by kernel_rfl) (by kernel_rfl) (by kernel_rfl) (by exact fun _ _ _ h => h) (Or.inl ⟨by rfl, ?_⟩) hOn ?_
  rotate_left
  focus (intro W hSW; go_simp; try with_reducible rfl)
  try simp only [Act.put, List.setIfInBounds_toArray, List.set_cons_zero, List.set_cons_succ]
  refine wpAnyH_ready (rs := [2]) (by kernel_rfl) (by simp) ?_
  refine AllReadyH.cons (by simp only [List.getElem?_toArray, List.getElem?_cons_succ, List.getElem?_cons_zero]; rfl) (fun Kz hKz => ?_) AllReadyH.nil
  rw [if_pos (by rfl)]
  (with_reducible refine wp_store_rowK 56 (.tmp 4) (.tmp 53) rfl (w.heap.size + 2) #[.slice none 0 0, .slice none 0 0] #[.slice none 0 0, .slice none 0 0] rfl rfl aO (by kernel_rfl) rfl (by simp [Value.oneCell']) ?_)
  intro w9 hU9
  have hS := hOn.trans (hU9.out.below (by omega))
  have hres := Lib.hid hU9.out.here
  refine hKz.out _ _ (by first | exact hS | exact Below.trans hOn (Below.mono hnew (Below.size hOn))) (fun hNext => ?_)
  clear hKz Kz hOn
  have hOn := hNext
  clear hNext
  try clear hnew
  try clear hS
  try simp only [Act.put]
  refine wpAnyH_take (i := 3) (v := ?_) (by simp only [List.getElem?_toArray, List.getElem?_cons_succ, List.getElem?_cons_zero]; rfl) (by kernel_rfl) (by kernel_rfl) (by kernel_rfl) (by exact fun _ _ _ h => h) (Or.inl ⟨by rfl, ?_⟩) hOn ?_
  rotate_left
  focus (intro W hSW; go_simp; try with_reducible rfl)
  try simp only [Act.put, List.setIfInBounds_toArray, List.set_cons_zero, List.set_cons_succ]
  refine wpAnyH_done (by kernel_rfl) ?_ _
  all_goals
    go_wp2_with fail
    refine ret_cell_tmpB rfl rfl Tryd.underlying56 rfl (by kernel_rfl) hres.out ?_
    exact hpost.out _ _ (.inr (.inl ⟨4 - 1, by decide, by decide, rfl⟩)) hOn

set_option maxRecDepth 100000 in
set_option maxHeartbeats 2000000 in
theorem asked_form2 (va : Value) (m : St) (x : Rc) (hx : x.Ok) (w : World) (ha : ArgS w va m) (l1 : m.its.length ≤ 1000) (l2 : m.ens.length ≤ 1000) (i : Nat) (hi : i < m.its.length) (hx1 : x.obj = (i : Int)) (h1 : m.its[i].k = true) (h2 : (nextI m.its[i] x.way).2 = true) (h3 : x.id = (m.ens.length : Int)) (h4 : x.index ≠ (nextI m.its[i] x.way).1) (ea : Nat → Addr) (H : Errs 177 errGs w ea) :
    Calls Tryd.prog 35 #[va, .agg x.list.toArray] w (FolPost ea ⟨[], []⟩ 4 w) := by
  have hge := fun W (h : Below w.heap.size w W) => (num_cells (H.below h)).2.2.2.1
  have hcf := Lib.hid (Rc.kept0 x hx 59)
  have hc0 := fun W h => item_in va m W (ha.below h (Nat.le_refl _)) i hi l1
  rw [← hx1] at hc0
  have hok := ha.okN _ (List.getElem_mem hi)
  generalize hy : m.its[i] = y at *
  obtain ⟨XA, hXA⟩ : ∃ XA, XA = y.list.toArray := ⟨_, rfl⟩
  have hk73 : ∀ (W : World) b, W.heap[b]? = some (.cells XA 93 (0, 0)) → W.cell? ⟨b, 73, none⟩ = some (.bool y.k) := fun W b h => by rw [cell_of_block h, hXA, List.getElem?_toArray]; exact It.c73 hok
  have hnx := Lib.hid (fun W => next_any y hok x.way W)
  have iA : (Tryd.prog.info? 93).map (·.size) = some XA.size := by rw [hXA, It.size hok]; kernel_rfl
  have zA : Tryd.zeroCells93.size = XA.size := by rw [hXA, It.size hok]; kernel_rfl
  have h1A : XA.all (·.oneCell') = true := by rw [hXA]; exact Go.Proofs.YtpehdoepcpmnbaaDoor.all_one (It.list_one _)
  rw [← hXA] at hc0 hnx
  obtain ⟨⟨an, cn, av, cv, rfl, hN, hN1, hN2, hV, hV1, hV2⟩, okN, okV⟩ := ha
  obtain ⟨N, hNl⟩ : ∃ N, N = m.its.length := ⟨_, rfl⟩
  obtain ⟨V, hVl⟩ : ∃ V, V = m.ens.length := ⟨_, rfl⟩
  rw [← hNl, ← hVl] at hc0
  rw [← hNl, ← hVl]
  generalize hRR : x.list.toArray = R at *
  obtain ⟨aS, aR, aO, hs3, hB⟩ := three_boxes w #[.slice an N cn, .slice av V cv] R #[.slice none 0 0, .slice none 0 0] 56 59 56 _ rfl
  obtain ⟨w3, hw3⟩ : ∃ w3, w3 = ((w.alloc (.cells #[.slice an N cn, .slice av V cv] 56)).alloc (.cells R 59)).alloc (.cells #[.slice none 0 0, .slice none 0 0] 56) := ⟨_, rfl⟩
  have s0 := cell_of_block aS 0
  have s1 := cell_of_block aS 1
  obtain ⟨q0, q1, q2, q3, q4, q5, q6, q7⟩ := hcf.out _ _ aR
  rw [← hw3] at aS aR aO hB
  have hof : (x.id != (V : Int)) = false := by rw [hVl, h3]; simp
  have hoi : (x.index != (nextI y x.way).1) = true := by simpa using h4
  have hpost : Hid (∀ W v, ErrIs ea W v 4 → Below w.heap.size w W → FolPost ea ⟨[], []⟩ 4 w (.returned (.tuple #[.agg #[.slice none 0 0, .slice none 0 0], v])) W) := Lib.hid (fun W v h1 h2 => ⟨_, _, rfl, argS_nil W, h1, h2, freshS_nil _⟩)
  obtain ⟨ix, lf, hnx2⟩ : ∃ ix lf, nextI y x.way = (ix, lf) := ⟨_, _, rfl⟩
  rw [hnx2] at hnx h2 hoi
  have h2b : lf = true := h2
  clear h2
  subst h2b
  replace hoi : (x.index != ix) = true := hoi
  replace hnx2 := Lib.hid hnx2
  rw [h1] at hk73
  replace hk73 := Lib.hid hk73
  generalize x.obj = vo at *
  generalize x.id = vi at *
  generalize x.way = vw at *
  generalize x.index = vx at *
  generalize x.name = vn at *
  replace hc0 := Lib.hid hc0
  replace hge := Lib.hid hge
  replace aS := Lib.hid aS
  replace aR := Lib.hid aR
  replace aO := Lib.hid aO
  replace hB := Lib.hid hB
  replace hw3 := Lib.hid hw3
  clear hRR hN hV hN1 hN2 hV1 hV2 okN okV hNl hVl hXA l1 l2 hs3 hx1 h3 h4
  go_enter Tryd.func35, Tryd.ntmps35
  go_wp2_with fail
  rw [← hw3.out]
  with_reducible refine (hc0.out _ hB.out).mono ?_
  rintro e w4 ⟨rfl, hb⟩
  replace aS := Lib.hid ((hb.block _ (block_lt aS.out)).trans aS.out)
  replace aR := Lib.hid ((hb.block _ (block_lt aR.out)).trans aR.out)
  replace aO := Lib.hid ((hb.block _ (block_lt aO.out)).trans aO.out)
  replace hB := Lib.hid (hB.out.trans (hb.mono hB.out.size))
  clear hb s0 s1 q0 q1 q2 q3 q4 q5 q6 q7
  have s0 := cell_of_block aS.out 0
  have s1 := cell_of_block aS.out 1
  obtain ⟨q0, q1, q2, q3, q4, q5, q6, q7⟩ := hcf.out _ _ aR.out
  have hZ4 := Lib.hid (heap_alloc_new w4 (.cells Tryd.zeroCells93 93))
  go_wp2_with (first
    | ((with_reducible show wpList _ _ _ (Oper.mk _ (Op.store 93 (.tmp 6) _) _ _ _ _ :: _) _ _); (refine wpList_store_row rfl 93 (.tmp 6) (.tmp 16) rfl w4.heap.size _ XA rfl rfl hZ4 iA zA h1A ?_); intro w5 hU5; have hb5 : Below w4.heap.size w4 w5 := (Below.alloc (Below.refl w4.heap.size w4) (Nat.le_refl _) _).trans (hU5.out.below (Nat.le_refl _)); have aX := Lib.hid hU5.out.here; replace aS := Lib.hid ((hb5.block _ (block_lt aS.out)).trans aS.out); replace aR := Lib.hid ((hb5.block _ (block_lt aR.out)).trans aR.out); replace aO := Lib.hid ((hb5.block _ (block_lt aO.out)).trans aO.out); replace hB := Lib.hid (hB.out.trans (hb5.mono hB.out.size)); clear s0 s1 q0 q1 q2 q3 q4 q5 q6 q7 hb5; have s0 := cell_of_block aS.out 0; have s1 := cell_of_block aS.out 1; obtain ⟨q0, q1, q2, q3, q4, q5, q6, q7⟩ := hcf.out _ _ aR.out; have y73 := hk73.out _ _ aX.out)
    | ((with_reducible show wpList _ _ _ (Oper.mk _ (Op.load 93 (.tmp 6)) _ _ _ _ :: _) _ _); refine wpList_load_row rfl 93 (.tmp 6) rfl w4.heap.size XA _ rfl aX Tryd.underlying93 rfl iA ?_))
  with_reducible refine (hnx.out _).mono ?_
  rintro e w6 ⟨rfl, hb⟩
  replace aX := Lib.hid ((hb.block _ (block_lt aX.out)).trans aX.out)
  replace aS := Lib.hid ((hb.block _ (block_lt aS.out)).trans aS.out)
  replace aR := Lib.hid ((hb.block _ (block_lt aR.out)).trans aR.out)
  replace aO := Lib.hid ((hb.block _ (block_lt aO.out)).trans aO.out)
  replace hB := Lib.hid (hB.out.trans (hb.mono hB.out.size))
  clear hb s0 s1 q0 q1 q2 q3 q4 q5 q6 q7 y73
  have s0 := cell_of_block aS.out 0
  have s1 := cell_of_block aS.out 1
  obtain ⟨q0, q1, q2, q3, q4, q5, q6, q7⟩ := hcf.out _ _ aR.out
  have y73 := hk73.out _ _ aX.out
  go_wp2_with fail
  have hd0 : Hid (Below w.heap.size w w6.drew) := Lib.hid hB.out.drew
  replace aO : Hid (w6.drew.heap[w.heap.size + 2]? = some (.cells #[.slice none 0 0, .slice none 0 0] 56 (0, 0))) := Lib.hid aO.out
  have hcW := fun W h => hge.out W h
  refine wp_region_held_drew (S := (Below w.heap.size w)) (by kernel_rfl) hd0.out (fun hOn => ?_)
  generalize World.drew w6 = wd at *
  refine wpAnyH_take (i := 0) (v := ?_) (by simp only [List.getElem?_toArray, List.getElem?_cons_zero]; rfl) (by kernel_rfl) (by kernel_rfl) (by kernel_rfl) (by exact fun _ _ _ h => h) (Or.inl ⟨by rfl, ?_⟩) hOn ?_
  rotate_left
  focus (intro W hSW; go_simp; try with_reducible rfl)
  try simp only [Act.put, List.setIfInBounds_toArray, List.set_cons_zero, List.set_cons_succ]
  refine wpAnyH_take (i := 1) (v := ?_) (by simp only [List.getElem?_toArray, List.getElem?_cons_succ, List.getElem?_cons_zero]; rfl) (by kernel_rfl) (by kernel_rfl) (by kernel_rfl) (by exact fun _ _ _ h => h) (Or.inl ⟨by rfl, ?_⟩) hOn ?_
  rotate_left
  focus (intro W hSW; go_simp; try with_reducible rfl)
  try simp only [Act.put, List.setIfInBounds_toArray, List.set_cons_zero, List.set_cons_succ]
  refine wpAnyH_ready (rs := [2]) (by kernel_rfl) (by simp) ?_
  refine AllReadyH.cons (by simp only [List.getElem?_toArray, List.getElem?_cons_succ, List.getElem?_cons_zero]; rfl) (fun Kz hKz => ?_) AllReadyH.nil
  rw [if_pos (by rfl)]
  (with_reducible refine wp_store_rowK 56 (.tmp 4) (.tmp 53) rfl (w.heap.size + 2) #[.slice none 0 0, .slice none 0 0] #[.slice none 0 0, .slice none 0 0] rfl rfl aO (by kernel_rfl) rfl (by simp [Value.oneCell']) ?_)
  intro w9 hU9
  have hS := hOn.trans (hU9.out.below (by omega))
  have hres := Lib.hid hU9.out.here
  refine hKz.out _ _ (by first | exact hS | exact Below.trans hOn (Below.mono hnew (Below.size hOn))) (fun hNext => ?_)
  clear hKz Kz hOn
  have hOn := hNext
  clear hNext
  try clear hnew
  try clear hS
  try simp only [Act.put]
  refine wpAnyH_take (i := 3) (v := ?_) (by simp only [List.getElem?_toArray, List.getElem?_cons_succ, List.getElem?_cons_zero]; rfl) (by kernel_rfl) (by kernel_rfl) (by kernel_rfl) (by exact fun _ _ _ h => h) (Or.inl ⟨by rfl, ?_⟩) hOn ?_
  rotate_left
  focus (intro W hSW; go_simp; try with_reducible rfl)
  try simp only [Act.put, List.setIfInBounds_toArray, List.set_cons_zero, List.set_cons_succ]
  refine wpAnyH_done (by kernel_rfl) ?_ _
  all_goals
    go_wp2_with fail
    refine ret_cell_tmpB rfl rfl Tryd.underlying56 rfl (by kernel_rfl) hres.out ?_
    exact hpost.out _ _ (.inr (.inl ⟨4 - 1, by decide, by decide, rfl⟩)) hOn

set_option maxRecDepth 100000 in
set_option maxHeartbeats 2000000 in
theorem judged_none (va : Value) (m : St) (x : Rc) (hx : x.Ok) (w : World) (ha : ArgS w va m) (l1 : m.its.length ≤ 1000) (l2 : m.ens.length ≤ 1000) (h1 : ¬ (0 ≤ x.id ∧ x.id < m.ens.length)) (ea : Nat → Addr) (H : Errs 177 errGs w ea) :
    Calls Tryd.prog 37 #[va, .agg x.list.toArray] w (FolPost ea ⟨[], []⟩ 11 w) := by
  have hge := fun W (h : Below w.heap.size w W) => (num_cells (H.below h)).2.2.2.2.2.2.2.2.2.2.1
  have hcf := Lib.hid (Rc.kept0 x hx 59)
  have hc0 := fun W h => entry_out va m W (ha.below h (Nat.le_refl _)) x.id h1 l2
  obtain ⟨y, hy⟩ : ∃ y, y = (default : En) := ⟨_, rfl⟩
  rw [← hy] at hc0
  obtain ⟨XA, hXA⟩ : ∃ XA, XA = y.list.toArray := ⟨_, rfl⟩
  have hk1 : ∀ (W : World) b, W.heap[b]? = some (.cells XA 95 (0, 0)) → W.cell? ⟨b, 1, none⟩ = some (.int .i64 y.o) ∧ W.cell? ⟨b, 5, none⟩ = some (.int .i64 y.v) := fun W b h => by
    rw [cell_of_block h, cell_of_block h, hXA, List.getElem?_toArray, List.getElem?_toArray]
    exact ⟨rfl, rfl⟩
  have iA : (Tryd.prog.info? 95).map (·.size) = some XA.size := by rw [hXA]; kernel_rfl
  have zA : (#[.int .i64 0, .int .i64 0, .int .i64 0, .int .i64 0, .int .i64 0, .int .i64 0, .int .i64 0] : Array Value).size = XA.size := by rw [hXA]; rfl
  have h1A : XA.all (·.oneCell') = true := by rw [hXA]; exact Go.Proofs.YtpehdoepcpmnbaaDoor.all_one (En.list_one _)
  rw [← hXA] at hc0
  obtain ⟨⟨an, cn, av, cv, rfl, hN, hN1, hN2, hV, hV1, hV2⟩, okN, okV⟩ := ha
  obtain ⟨N, hNl⟩ : ∃ N, N = m.its.length := ⟨_, rfl⟩
  obtain ⟨V, hVl⟩ : ∃ V, V = m.ens.length := ⟨_, rfl⟩
  rw [← hNl, ← hVl] at hc0
  rw [← hNl, ← hVl]
  generalize hRR : x.list.toArray = R at *
  obtain ⟨aS, aR, aO, hs3, hB⟩ := three_boxes w #[.slice an N cn, .slice av V cv] R #[.slice none 0 0, .slice none 0 0] 56 59 56 _ rfl
  obtain ⟨w3, hw3⟩ : ∃ w3, w3 = ((w.alloc (.cells #[.slice an N cn, .slice av V cv] 56)).alloc (.cells R 59)).alloc (.cells #[.slice none 0 0, .slice none 0 0] 56) := ⟨_, rfl⟩
  have s0 := cell_of_block aS 0
  have s1 := cell_of_block aS 1
  obtain ⟨q0, q1, q2, q3, q4, q5, q6, q7⟩ := hcf.out _ _ aR
  rw [← hw3] at aS aR aO hB
  have hpost : Hid (∀ W v, ErrIs ea W v 11 → Below w.heap.size w W → FolPost ea ⟨[], []⟩ 11 w (.returned (.tuple #[.agg #[.slice none 0 0, .slice none 0 0], v])) W) := Lib.hid (fun W v h1 h2 => ⟨_, _, rfl, argS_nil W, h1, h2, freshS_nil _⟩)
  replace hk1 := Lib.hid hk1
  generalize x.obj = vo at *
  generalize x.id = vi at *
  generalize x.way = vw at *
  generalize x.index = vx at *
  generalize x.name = vn at *
  replace hc0 := Lib.hid hc0
  replace hge := Lib.hid hge
  replace aS := Lib.hid aS
  replace aR := Lib.hid aR
  replace aO := Lib.hid aO
  replace hB := Lib.hid hB
  replace hw3 := Lib.hid hw3
  clear hRR hN hV hN1 hN2 hV1 hV2 okN okV hNl hVl hXA l1 l2 hs3 h1
  go_enter Tryd.func37, Tryd.ntmps37
  go_wp2_with fail
  rw [← hw3.out]
  with_reducible refine (hc0.out _ hB.out).mono ?_
  rintro e w4 ⟨rfl, hb⟩
  replace aS := Lib.hid ((hb.block _ (block_lt aS.out)).trans aS.out)
  replace aR := Lib.hid ((hb.block _ (block_lt aR.out)).trans aR.out)
  replace aO := Lib.hid ((hb.block _ (block_lt aO.out)).trans aO.out)
  replace hB := Lib.hid (hB.out.trans (hb.mono hB.out.size))
  clear hb s0 s1 q0 q1 q2 q3 q4 q5 q6 q7
  have s0 := cell_of_block aS.out 0
  have s1 := cell_of_block aS.out 1
  obtain ⟨q0, q1, q2, q3, q4, q5, q6, q7⟩ := hcf.out _ _ aR.out
  have hZ4 := Lib.hid (heap_alloc_new w4 (.cells #[.int .i64 0, .int .i64 0, .int .i64 0, .int .i64 0, .int .i64 0, .int .i64 0, .int .i64 0] 95))
  go_wp2_with ((with_reducible show wpList _ _ _ (Oper.mk _ (Op.store 95 (.tmp 6) _) _ _ _ _ :: _) _ _); (refine wpList_store_row rfl 95 (.tmp 6) (.tmp 14) rfl w4.heap.size _ XA rfl rfl hZ4 iA zA h1A ?_); intro w5 hU5; have hb5 : Below w4.heap.size w4 w5 := (Below.alloc (Below.refl w4.heap.size w4) (Nat.le_refl _) _).trans (hU5.out.below (Nat.le_refl _)); have aX := Lib.hid hU5.out.here; replace aS := Lib.hid ((hb5.block _ (block_lt aS.out)).trans aS.out); replace aR := Lib.hid ((hb5.block _ (block_lt aR.out)).trans aR.out); replace aO := Lib.hid ((hb5.block _ (block_lt aO.out)).trans aO.out); replace hB := Lib.hid (hB.out.trans (hb5.mono hB.out.size)); clear s0 s1 q0 q1 q2 q3 q4 q5 q6 q7 hb5; have s0 := cell_of_block aS.out 0; have s1 := cell_of_block aS.out 1; obtain ⟨q0, q1, q2, q3, q4, q5, q6, q7⟩ := hcf.out _ _ aR.out; obtain ⟨y1, y5⟩ := hk1.out _ _ aX.out)
  have hd0 : Hid (Below w.heap.size w w5.drew) := Lib.hid hB.out.drew
  replace aO : Hid (w5.drew.heap[w.heap.size + 2]? = some (.cells #[.slice none 0 0, .slice none 0 0] 56 (0, 0))) := Lib.hid aO.out
  have hcW := fun W h => hge.out W h
  refine wp_region_held_drew (S := (Below w.heap.size w)) (by kernel_rfl) hd0.out (fun hOn => ?_)
  generalize World.drew w5 = wd at *
  refine wpAnyH_take (i := 0) (v := ?_) (by simp only [List.getElem?_toArray, List.getElem?_cons_zero]; rfl) (by kernel_rfl) (by kernel_rfl) (by kernel_rfl) (by exact fun _ _ _ h => h) (Or.inl ⟨by rfl, ?_⟩) hOn ?_
  rotate_left
  focus (intro W hSW; go_simp; try with_reducible rfl)
  try simp only [Act.put, List.setIfInBounds_toArray, List.set_cons_zero, List.set_cons_succ]
  refine wpAnyH_take (i := 1) (v := ?_) (by simp only [List.getElem?_toArray, List.getElem?_cons_succ, List.getElem?_cons_zero]; rfl) (by kernel_rfl) (by kernel_rfl) (by kernel_rfl) (by exact fun _ _ _ h => h) (Or.inl ⟨by rfl, ?_⟩) hOn ?_
  rotate_left
  focus (intro W hSW; go_simp; try with_reducible rfl)
  try simp only [Act.put, List.setIfInBounds_toArray, List.set_cons_zero, List.set_cons_succ]
  refine wpAnyH_ready (rs := [2]) (by kernel_rfl) (by simp) ?_
  refine AllReadyH.cons (by simp only [List.getElem?_toArray, List.getElem?_cons_succ, List.getElem?_cons_zero]; rfl) (fun Kz hKz => ?_) AllReadyH.nil
  rw [if_pos (by rfl)]
  (with_reducible refine wp_store_rowK 56 (.tmp 4) (.tmp 26) rfl (w.heap.size + 2) #[.slice none 0 0, .slice none 0 0] #[.slice none 0 0, .slice none 0 0] rfl rfl aO (by kernel_rfl) rfl (by simp [Value.oneCell']) ?_)
  intro w9 hU9
  have hS := hOn.trans (hU9.out.below (by omega))
  have hres := Lib.hid hU9.out.here
  refine hKz.out _ _ (by first | exact hS | exact Below.trans hOn (Below.mono hnew (Below.size hOn))) (fun hNext => ?_)
  clear hKz Kz hOn
  have hOn := hNext
  clear hNext
  try clear hnew
  try clear hS
  try simp only [Act.put]
  refine wpAnyH_take (i := 3) (v := ?_) (by simp only [List.getElem?_toArray, List.getElem?_cons_succ, List.getElem?_cons_zero]; rfl) (by kernel_rfl) (by kernel_rfl) (by kernel_rfl) (by exact fun _ _ _ h => h) (Or.inl ⟨by rfl, ?_⟩) hOn ?_
  rotate_left
  focus (intro W hSW; go_simp; try with_reducible rfl)
  try simp only [Act.put, List.setIfInBounds_toArray, List.set_cons_zero, List.set_cons_succ]
  refine wpAnyH_done (by kernel_rfl) ?_ _
  all_goals
    go_wp2_with fail
    refine ret_cell_tmpB rfl rfl Tryd.underlying56 rfl (by kernel_rfl) hres.out ?_
    exact hpost.out _ _ (.inr (.inl ⟨11 - 1, by decide, by decide, rfl⟩)) hOn

set_option maxRecDepth 100000 in
set_option maxHeartbeats 2000000 in
theorem judged_other (va : Value) (m : St) (x : Rc) (hx : x.Ok) (w : World) (ha : ArgS w va m) (l1 : m.its.length ≤ 1000) (l2 : m.ens.length ≤ 1000) (i : Nat) (hi : i < m.ens.length) (hx1 : x.id = (i : Int)) (h1 : m.ens[i].o ≠ x.obj) (ea : Nat → Addr) (H : Errs 177 errGs w ea) :
    Calls Tryd.prog 37 #[va, .agg x.list.toArray] w (FolPost ea ⟨[], []⟩ 11 w) := by
  have hge := fun W (h : Below w.heap.size w W) => (num_cells (H.below h)).2.2.2.2.2.2.2.2.2.2.1
  have hcf := Lib.hid (Rc.kept0 x hx 59)
  have hc0 := fun W h => entry_in va m W (ha.below h (Nat.le_refl _)) i hi l2
  rw [← hx1] at hc0
  generalize hy : m.ens[i] = y at *
  obtain ⟨XA, hXA⟩ : ∃ XA, XA = y.list.toArray := ⟨_, rfl⟩
  have hk1 : ∀ (W : World) b, W.heap[b]? = some (.cells XA 95 (0, 0)) → W.cell? ⟨b, 1, none⟩ = some (.int .i64 y.o) ∧ W.cell? ⟨b, 5, none⟩ = some (.int .i64 y.v) := fun W b h => by
    rw [cell_of_block h, cell_of_block h, hXA, List.getElem?_toArray, List.getElem?_toArray]
    exact ⟨rfl, rfl⟩
  have iA : (Tryd.prog.info? 95).map (·.size) = some XA.size := by rw [hXA]; kernel_rfl
  have zA : (#[.int .i64 0, .int .i64 0, .int .i64 0, .int .i64 0, .int .i64 0, .int .i64 0, .int .i64 0] : Array Value).size = XA.size := by rw [hXA]; rfl
  have h1A : XA.all (·.oneCell') = true := by rw [hXA]; exact Go.Proofs.YtpehdoepcpmnbaaDoor.all_one (En.list_one _)
  rw [← hXA] at hc0
  obtain ⟨⟨an, cn, av, cv, rfl, hN, hN1, hN2, hV, hV1, hV2⟩, okN, okV⟩ := ha
  obtain ⟨N, hNl⟩ : ∃ N, N = m.its.length := ⟨_, rfl⟩
  obtain ⟨V, hVl⟩ : ∃ V, V = m.ens.length := ⟨_, rfl⟩
  rw [← hNl, ← hVl] at hc0
  rw [← hNl, ← hVl]
  generalize hRR : x.list.toArray = R at *
  obtain ⟨aS, aR, aO, hs3, hB⟩ := three_boxes w #[.slice an N cn, .slice av V cv] R #[.slice none 0 0, .slice none 0 0] 56 59 56 _ rfl
  obtain ⟨w3, hw3⟩ : ∃ w3, w3 = ((w.alloc (.cells #[.slice an N cn, .slice av V cv] 56)).alloc (.cells R 59)).alloc (.cells #[.slice none 0 0, .slice none 0 0] 56) := ⟨_, rfl⟩
  have s0 := cell_of_block aS 0
  have s1 := cell_of_block aS 1
  obtain ⟨q0, q1, q2, q3, q4, q5, q6, q7⟩ := hcf.out _ _ aR
  rw [← hw3] at aS aR aO hB
  have hof : (y.o != x.obj) = true := by simpa using h1
  have hpost : Hid (∀ W v, ErrIs ea W v 11 → Below w.heap.size w W → FolPost ea ⟨[], []⟩ 11 w (.returned (.tuple #[.agg #[.slice none 0 0, .slice none 0 0], v])) W) := Lib.hid (fun W v h1 h2 => ⟨_, _, rfl, argS_nil W, h1, h2, freshS_nil _⟩)
  replace hk1 := Lib.hid hk1
  generalize x.obj = vo at *
  generalize x.id = vi at *
  generalize x.way = vw at *
  generalize x.index = vx at *
  generalize x.name = vn at *
  replace hc0 := Lib.hid hc0
  replace hge := Lib.hid hge
  replace aS := Lib.hid aS
  replace aR := Lib.hid aR
  replace aO := Lib.hid aO
  replace hB := Lib.hid hB
  replace hw3 := Lib.hid hw3
  clear hRR hN hV hN1 hN2 hV1 hV2 okN okV hNl hVl hXA l1 l2 hs3 hx1 h1
  go_enter Tryd.func37, Tryd.ntmps37
  go_wp2_with fail
  rw [← hw3.out]
  with_reducible refine (hc0.out _ hB.out).mono ?_
  rintro e w4 ⟨rfl, hb⟩
  replace aS := Lib.hid ((hb.block _ (block_lt aS.out)).trans aS.out)
  replace aR := Lib.hid ((hb.block _ (block_lt aR.out)).trans aR.out)
  replace aO := Lib.hid ((hb.block _ (block_lt aO.out)).trans aO.out)
  replace hB := Lib.hid (hB.out.trans (hb.mono hB.out.size))
  clear hb s0 s1 q0 q1 q2 q3 q4 q5 q6 q7
  have s0 := cell_of_block aS.out 0
  have s1 := cell_of_block aS.out 1
  obtain ⟨q0, q1, q2, q3, q4, q5, q6, q7⟩ := hcf.out _ _ aR.out
  have hZ4 := Lib.hid (heap_alloc_new w4 (.cells #[.int .i64 0, .int .i64 0, .int .i64 0, .int .i64 0, .int .i64 0, .int .i64 0, .int .i64 0] 95))
  go_wp2_with ((with_reducible show wpList _ _ _ (Oper.mk _ (Op.store 95 (.tmp 6) _) _ _ _ _ :: _) _ _); (refine wpList_store_row rfl 95 (.tmp 6) (.tmp 14) rfl w4.heap.size _ XA rfl rfl hZ4 iA zA h1A ?_); intro w5 hU5; have hb5 : Below w4.heap.size w4 w5 := (Below.alloc (Below.refl w4.heap.size w4) (Nat.le_refl _) _).trans (hU5.out.below (Nat.le_refl _)); have aX := Lib.hid hU5.out.here; replace aS := Lib.hid ((hb5.block _ (block_lt aS.out)).trans aS.out); replace aR := Lib.hid ((hb5.block _ (block_lt aR.out)).trans aR.out); replace aO := Lib.hid ((hb5.block _ (block_lt aO.out)).trans aO.out); replace hB := Lib.hid (hB.out.trans (hb5.mono hB.out.size)); clear s0 s1 q0 q1 q2 q3 q4 q5 q6 q7 hb5; have s0 := cell_of_block aS.out 0; have s1 := cell_of_block aS.out 1; obtain ⟨q0, q1, q2, q3, q4, q5, q6, q7⟩ := hcf.out _ _ aR.out; obtain ⟨y1, y5⟩ := hk1.out _ _ aX.out)
  have hd0 : Hid (Below w.heap.size w w5.drew) := Lib.hid hB.out.drew
  replace aO : Hid (w5.drew.heap[w.heap.size + 2]? = some (.cells #[.slice none 0 0, .slice none 0 0] 56 (0, 0))) := Lib.hid aO.out
  have hcW := fun W h => hge.out W h
  refine wp_region_held_drew (S := (Below w.heap.size w)) (by kernel_rfl) hd0.out (fun hOn => ?_)
  generalize World.drew w5 = wd at *
  refine wpAnyH_take (i := 0) (v := ?_) (by simp only [List.getElem?_toArray, List.getElem?_cons_zero]; rfl) (by kernel_rfl) (by kernel_rfl) (by kernel_rfl) (by exact fun _ _ _ h => h) (Or.inl ⟨by rfl, ?_⟩) hOn ?_
  rotate_left
  focus (intro W hSW; go_simp; try with_reducible rfl)
  try simp only [Act.put, List.setIfInBounds_toArray, List.set_cons_zero, List.set_cons_succ]
  refine wpAnyH_take (i := 1) (v := ?_) (by simp only [List.getElem?_toArray, List.getElem?_cons_succ, List.getElem?_cons_zero]; rfl) (by kernel_rfl) (by kernel_rfl) (by kernel_rfl) (by exact fun _ _ _ h => h) (Or.inl ⟨by rfl, ?_⟩) hOn ?_
  rotate_left
  focus (intro W hSW; go_simp; try with_reducible rfl)
  try simp only [Act.put, List.setIfInBounds_toArray, List.set_cons_zero, List.set_cons_succ]
  refine wpAnyH_ready (rs := [2]) (by kernel_rfl) (by simp) ?_
  refine AllReadyH.cons (by simp only [List.getElem?_toArray, List.getElem?_cons_succ, List.getElem?_cons_zero]; rfl) (fun Kz hKz => ?_) AllReadyH.nil
  rw [if_pos (by rfl)]
  (with_reducible refine wp_store_rowK 56 (.tmp 4) (.tmp 26) rfl (w.heap.size + 2) #[.slice none 0 0, .slice none 0 0] #[.slice none 0 0, .slice none 0 0] rfl rfl aO (by kernel_rfl) rfl (by simp [Value.oneCell']) ?_)
  intro w9 hU9
  have hS := hOn.trans (hU9.out.below (by omega))
  have hres := Lib.hid hU9.out.here
  refine hKz.out _ _ (by first | exact hS | exact Below.trans hOn (Below.mono hnew (Below.size hOn))) (fun hNext => ?_)
  clear hKz Kz hOn
  have hOn := hNext
  clear hNext
  try clear hnew
  try clear hS
  try simp only [Act.put]
  refine wpAnyH_take (i := 3) (v := ?_) (by simp only [List.getElem?_toArray, List.getElem?_cons_succ, List.getElem?_cons_zero]; rfl) (by kernel_rfl) (by kernel_rfl) (by kernel_rfl) (by exact fun _ _ _ h => h) (Or.inl ⟨by rfl, ?_⟩) hOn ?_
  rotate_left
  focus (intro W hSW; go_simp; try with_reducible rfl)
  try simp only [Act.put, List.setIfInBounds_toArray, List.set_cons_zero, List.set_cons_succ]
  refine wpAnyH_done (by kernel_rfl) ?_ _
  all_goals
    go_wp2_with fail
    refine ret_cell_tmpB rfl rfl Tryd.underlying56 rfl (by kernel_rfl) hres.out ?_
    exact hpost.out _ _ (.inr (.inl ⟨11 - 1, by decide, by decide, rfl⟩)) hOn

set_option maxRecDepth 100000 in
set_option maxHeartbeats 2000000 in
theorem judged_state (va : Value) (m : St) (x : Rc) (hx : x.Ok) (w : World) (ha : ArgS w va m) (l1 : m.its.length ≤ 1000) (l2 : m.ens.length ≤ 1000) (i : Nat) (hi : i < m.ens.length) (hx1 : x.id = (i : Int)) (h1 : m.ens[i].o = x.obj) (h2 : m.ens[i].v ≠ 0) (ea : Nat → Addr) (H : Errs 177 errGs w ea) :
    Calls Tryd.prog 37 #[va, .agg x.list.toArray] w (FolPost ea ⟨[], []⟩ 13 w) := by
  have hge := fun W (h : Below w.heap.size w W) => (num_cells (H.below h)).2.2.2.2.2.2.2.2.2.2.2.2.1
  have hcf := Lib.hid (Rc.kept0 x hx 59)
  have hc0 := fun W h => entry_in va m W (ha.below h (Nat.le_refl _)) i hi l2
  rw [← hx1] at hc0
  generalize hy : m.ens[i] = y at *
  obtain ⟨XA, hXA⟩ : ∃ XA, XA = y.list.toArray := ⟨_, rfl⟩
  have hk1 : ∀ (W : World) b, W.heap[b]? = some (.cells XA 95 (0, 0)) → W.cell? ⟨b, 1, none⟩ = some (.int .i64 y.o) ∧ W.cell? ⟨b, 5, none⟩ = some (.int .i64 y.v) := fun W b h => by
    rw [cell_of_block h, cell_of_block h, hXA, List.getElem?_toArray, List.getElem?_toArray]
    exact ⟨rfl, rfl⟩
  have iA : (Tryd.prog.info? 95).map (·.size) = some XA.size := by rw [hXA]; kernel_rfl
  have zA : (#[.int .i64 0, .int .i64 0, .int .i64 0, .int .i64 0, .int .i64 0, .int .i64 0, .int .i64 0] : Array Value).size = XA.size := by rw [hXA]; rfl
  have h1A : XA.all (·.oneCell') = true := by rw [hXA]; exact Go.Proofs.YtpehdoepcpmnbaaDoor.all_one (En.list_one _)
  rw [← hXA] at hc0
  obtain ⟨⟨an, cn, av, cv, rfl, hN, hN1, hN2, hV, hV1, hV2⟩, okN, okV⟩ := ha
  obtain ⟨N, hNl⟩ : ∃ N, N = m.its.length := ⟨_, rfl⟩
  obtain ⟨V, hVl⟩ : ∃ V, V = m.ens.length := ⟨_, rfl⟩
  rw [← hNl, ← hVl] at hc0
  rw [← hNl, ← hVl]
  generalize hRR : x.list.toArray = R at *
  obtain ⟨aS, aR, aO, hs3, hB⟩ := three_boxes w #[.slice an N cn, .slice av V cv] R #[.slice none 0 0, .slice none 0 0] 56 59 56 _ rfl
  obtain ⟨w3, hw3⟩ : ∃ w3, w3 = ((w.alloc (.cells #[.slice an N cn, .slice av V cv] 56)).alloc (.cells R 59)).alloc (.cells #[.slice none 0 0, .slice none 0 0] 56) := ⟨_, rfl⟩
  have s0 := cell_of_block aS 0
  have s1 := cell_of_block aS 1
  obtain ⟨q0, q1, q2, q3, q4, q5, q6, q7⟩ := hcf.out _ _ aR
  rw [← hw3] at aS aR aO hB
  have hof : (y.o != x.obj) = false := by rw [h1]; simp
  have hov : (y.v != 0) = true := by simpa using h2
  have hpost : Hid (∀ W v, ErrIs ea W v 13 → Below w.heap.size w W → FolPost ea ⟨[], []⟩ 13 w (.returned (.tuple #[.agg #[.slice none 0 0, .slice none 0 0], v])) W) := Lib.hid (fun W v h1 h2 => ⟨_, _, rfl, argS_nil W, h1, h2, freshS_nil _⟩)
  replace hk1 := Lib.hid hk1
  generalize x.obj = vo at *
  generalize x.id = vi at *
  generalize x.way = vw at *
  generalize x.index = vx at *
  generalize x.name = vn at *
  replace hc0 := Lib.hid hc0
  replace hge := Lib.hid hge
  replace aS := Lib.hid aS
  replace aR := Lib.hid aR
  replace aO := Lib.hid aO
  replace hB := Lib.hid hB
  replace hw3 := Lib.hid hw3
  clear hRR hN hV hN1 hN2 hV1 hV2 okN okV hNl hVl hXA l1 l2 hs3 hx1 h1 h2
  go_enter Tryd.func37, Tryd.ntmps37
  go_wp2_with fail
  rw [← hw3.out]
  with_reducible refine (hc0.out _ hB.out).mono ?_
  rintro e w4 ⟨rfl, hb⟩
  replace aS := Lib.hid ((hb.block _ (block_lt aS.out)).trans aS.out)
  replace aR := Lib.hid ((hb.block _ (block_lt aR.out)).trans aR.out)
  replace aO := Lib.hid ((hb.block _ (block_lt aO.out)).trans aO.out)
  replace hB := Lib.hid (hB.out.trans (hb.mono hB.out.size))
  clear hb s0 s1 q0 q1 q2 q3 q4 q5 q6 q7
  have s0 := cell_of_block aS.out 0
  have s1 := cell_of_block aS.out 1
  obtain ⟨q0, q1, q2, q3, q4, q5, q6, q7⟩ := hcf.out _ _ aR.out
  have hZ4 := Lib.hid (heap_alloc_new w4 (.cells #[.int .i64 0, .int .i64 0, .int .i64 0, .int .i64 0, .int .i64 0, .int .i64 0, .int .i64 0] 95))
  go_wp2_with ((with_reducible show wpList _ _ _ (Oper.mk _ (Op.store 95 (.tmp 6) _) _ _ _ _ :: _) _ _); (refine wpList_store_row rfl 95 (.tmp 6) (.tmp 14) rfl w4.heap.size _ XA rfl rfl hZ4 iA zA h1A ?_); intro w5 hU5; have hb5 : Below w4.heap.size w4 w5 := (Below.alloc (Below.refl w4.heap.size w4) (Nat.le_refl _) _).trans (hU5.out.below (Nat.le_refl _)); have aX := Lib.hid hU5.out.here; replace aS := Lib.hid ((hb5.block _ (block_lt aS.out)).trans aS.out); replace aR := Lib.hid ((hb5.block _ (block_lt aR.out)).trans aR.out); replace aO := Lib.hid ((hb5.block _ (block_lt aO.out)).trans aO.out); replace hB := Lib.hid (hB.out.trans (hb5.mono hB.out.size)); clear s0 s1 q0 q1 q2 q3 q4 q5 q6 q7 hb5; have s0 := cell_of_block aS.out 0; have s1 := cell_of_block aS.out 1; obtain ⟨q0, q1, q2, q3, q4, q5, q6, q7⟩ := hcf.out _ _ aR.out; obtain ⟨y1, y5⟩ := hk1.out _ _ aX.out)
  have hd0 : Hid (Below w.heap.size w w5.drew) := Lib.hid hB.out.drew
  replace aO : Hid (w5.drew.heap[w.heap.size + 2]? = some (.cells #[.slice none 0 0, .slice none 0 0] 56 (0, 0))) := Lib.hid aO.out
  have hcW := fun W h => hge.out W h
  refine wp_region_held_drew (S := (Below w.heap.size w)) (by kernel_rfl) hd0.out (fun hOn => ?_)
  generalize World.drew w5 = wd at *
  refine wpAnyH_take (i := 0) (v := ?_) (by simp only [List.getElem?_toArray, List.getElem?_cons_zero]; rfl) (by kernel_rfl) (by kernel_rfl) (by kernel_rfl) (by exact fun _ _ _ h => h) (Or.inl ⟨by rfl, ?_⟩) hOn ?_
  rotate_left
  focus (intro W hSW; go_simp; try with_reducible rfl)
  try simp only [Act.put, List.setIfInBounds_toArray, List.set_cons_zero, List.set_cons_succ]
  refine wpAnyH_take (i := 1) (v := ?_) (by simp only [List.getElem?_toArray, List.getElem?_cons_succ, List.getElem?_cons_zero]; rfl) (by kernel_rfl) (by kernel_rfl) (by kernel_rfl) (by exact fun _ _ _ h => h) (Or.inl ⟨by rfl, ?_⟩) hOn ?_
  rotate_left
  focus (intro W hSW; go_simp; try with_reducible rfl)
  try simp only [Act.put, List.setIfInBounds_toArray, List.set_cons_zero, List.set_cons_succ]
  refine wpAnyH_ready (rs := [2]) (by kernel_rfl) (by simp) ?_
  refine AllReadyH.cons (by simp only [List.getElem?_toArray, List.getElem?_cons_succ, List.getElem?_cons_zero]; rfl) (fun Kz hKz => ?_) AllReadyH.nil
  rw [if_pos (by rfl)]
  (with_reducible refine wp_store_rowK 56 (.tmp 4) (.tmp 32) rfl (w.heap.size + 2) #[.slice none 0 0, .slice none 0 0] #[.slice none 0 0, .slice none 0 0] rfl rfl aO (by kernel_rfl) rfl (by simp [Value.oneCell']) ?_)
  intro w9 hU9
  have hS := hOn.trans (hU9.out.below (by omega))
  have hres := Lib.hid hU9.out.here
  refine hKz.out _ _ (by first | exact hS | exact Below.trans hOn (Below.mono hnew (Below.size hOn))) (fun hNext => ?_)
  clear hKz Kz hOn
  have hOn := hNext
  clear hNext
  try clear hnew
  try clear hS
  try simp only [Act.put]
  refine wpAnyH_take (i := 3) (v := ?_) (by simp only [List.getElem?_toArray, List.getElem?_cons_succ, List.getElem?_cons_zero]; rfl) (by kernel_rfl) (by kernel_rfl) (by kernel_rfl) (by exact fun _ _ _ h => h) (Or.inl ⟨by rfl, ?_⟩) hOn ?_
  rotate_left
  focus (intro W hSW; go_simp; try with_reducible rfl)
  try simp only [Act.put, List.setIfInBounds_toArray, List.set_cons_zero, List.set_cons_succ]
  refine wpAnyH_done (by kernel_rfl) ?_ _
  all_goals
    go_wp2_with fail
    refine ret_cell_tmpB rfl rfl Tryd.underlying56 rfl (by kernel_rfl) hres.out ?_
    exact hpost.out _ _ (.inr (.inl ⟨13 - 1, by decide, by decide, rfl⟩)) hOn

end Go.Proofs.YtpehdoepcpmnbaaDoor
