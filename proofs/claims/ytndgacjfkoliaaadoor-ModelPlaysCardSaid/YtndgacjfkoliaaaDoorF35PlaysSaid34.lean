/- baileeref34.Asked where it goes well. Printed by genrask.py. -/
import Derived.Test.YtndgacjfkoliaaaDoorF25PlaysSaid34
import Derived.Test.YtndgacjfkoliaaaDoorF32PlaysSaid34
import Derived.Test.YtndgacjfkoliaaaDoorF27PlaysSaid34
import Derived.Test.YtndgacjfkoliaaaDoorF4PlaysSaid34
namespace Go.Proofs.YtndgacjfkoliaaaDoor
open Go.RowKit
set_option linter.unusedSimpArgs false
set_option linter.unusedVariables false

set_option maxRecDepth 100000 in
set_option maxHeartbeats 1000000 in
theorem rasked_1 (va : Value) (m : Md) (w : World) (ha : ArgM w va m) (l1 : m.ns.length ≤ 1000) (l2 : m.vs.length ≤ 1000) (i : Nat) (hi : i < m.ns.length) (hk : m.ns[i].k = true) :
    Calls Tryd.prog 20 #[va, .int .i64 (i : Int), .int .i64 1] w (RNPost ⟨m.ns, m.vs ++ [⟨(i : Int), 1, 0⟩]⟩ (m.vs.length : Int) 0 w) := by
  have ha0 := ha
  obtain ⟨⟨an, cn, av, cv, rfl, hN, hN1, hN2, hV, hV1, hV2⟩, okN, okV⟩ := ha
  have hB : Below w.heap.size w ((w.alloc (.cells #[.slice an m.ns.length cn, .slice av m.vs.length cv] 32)).alloc (.cells #[.slice none 0 0, .slice none 0 0] 32)) := ((Below.refl _ _).alloc (Nat.le_refl _) _).alloc (by simp) _
  obtain ⟨w2, hw2⟩ : ∃ w2, w2 = (w.alloc (.cells #[.slice an m.ns.length cn, .slice av m.vs.length cv] 32)).alloc (.cells #[.slice none 0 0, .slice none 0 0] 32) := ⟨_, rfl⟩
  have e10 : w2.cell? ⟨w.heap.size, 0, none⟩ = some (.slice an m.ns.length cn) := by rw [hw2]; exact cellAfter (cell_of_block (heap_alloc_new w _) 0) _
  have e11 : w2.cell? ⟨w.heap.size, 1, none⟩ = some (.slice av m.vs.length cv) := by rw [hw2]; exact cellAfter (cell_of_block (heap_alloc_new w _) 1) _
  have a2 : w2.heap[w.heap.size + 1]? = some (.cells #[.slice none 0 0, .slice none 0 0] 32 (0, 0)) := by
    have h1 := heap_alloc_new (w.alloc (.cells #[.slice an m.ns.length cn, .slice av m.vs.length cv] 32)) (.cells #[.slice none 0 0, .slice none 0 0] 32 (0, 0))
    rw [World.size_alloc] at h1
    rw [hw2]
    exact h1
  rw [← hw2] at hB
  have hs2 : w2.heap.size = w.heap.size + 2 := by rw [hw2]; simp
  obtain ⟨b, o, hab, hr⟩ := hN i hi
  have ok39 : w.cell? ⟨b, o + i * 40 + 39, none⟩ = some (.bool true) := hr 39 _ (by rw [Nm.c39 (okN _ (List.getElem_mem hi)).f, hk])
  subst hab
  have hap : ∀ W, Below w.heap.size w W → Calls Tryd.prog 34 #[.agg #[.slice (some ⟨b, o, none⟩) m.ns.length cn, .slice av m.vs.length cv]] W (CopiedPost W m) := fun W hW => copied_any _ m W (ha0.below hW (Nat.le_refl _)) l1 l2
  obtain ⟨N, hNl⟩ : ∃ N, N = m.ns.length := ⟨_, rfl⟩
  obtain ⟨V, hVl⟩ : ∃ V, V = m.vs.length := ⟨_, rfl⟩
  rw [← hNl, ← hVl] at hap
  rw [← hNl] at e10 hi l1
  rw [← hVl] at e11 l2
  rw [← hNl, ← hVl]
  rw [← hNl, ← hVl] at hw2
  have hii : (i : Int) < (N : Int) := by omega
  have k39 := (hB.cell (World.block_lt_of_cell? w _ ok39)).trans ok39
  replace hap := Lib.hid hap
  replace hNl := Lib.hid hNl
  replace hVl := Lib.hid hVl
  have g10 := e10
  have g11 := e11
  have g39 := k39
  rw [hw2] at e10 e11 k39
  have hi0 : ¬ ((i : Int) < 0) := by omega
  replace hw2 := Lib.hid hw2
  replace g10 := Lib.hid g10
  replace g11 := Lib.hid g11
  replace g39 := Lib.hid g39
  replace a2 := Lib.hid a2
  replace hB := Lib.hid hB
  replace hs2 := Lib.hid hs2
  clear hN hV ha0 okN okV hr hk hN1 hN2 hV1 hV2
  go_enter Tryd.func20, Tryd.ntmps20
  go_wp2_with fail
  rw [← hw2.out]
  clear hw2
  clear e10 e11 k39
  replace g10 := g10.out
  replace g11 := g11.out
  replace g39 := g39.out
  have a3 := a2
  have hB3 := hB
  have hs3 := Lib.hid (Nat.le_refl w2.heap.size)
  clear a2 hB
  with_reducible refine (hap.out w2 hB3.out).mono ?_
  clear hap
  rintro x w4 ⟨v, v', rfl, hrN, hrV, hav, hb4⟩
  obtain ⟨x4, c4, hv4, _⟩ := hrN.form
  obtain ⟨x5, c5, hv5, _⟩ := hrV.form
  subst hv4 hv5
  have hltV := Lib.hid (fun k (hk : (Value.slice x5 m.vs.length c5).ownBlock = some k) => hrV.ownLt k hk)
  have hltN := Lib.hid (fun k (hk : (Value.slice x4 m.ns.length c4).ownBlock = some k) => hrN.ownLt k hk)
  have h11 := (hb4.cell (World.block_lt_of_cell? w2 _ g11)).trans g11
  have a4 := Lib.hid ((hb4.block _ (block_lt a3.out)).trans a3.out)
  have hB4 := Lib.hid (hB3.out.trans (hb4.mono hB3.out.size))
  have hs4 := Lib.hid hb4.size
  have hG5 : Below w4.heap.size w4 (w4.alloc (.cells #[.slice x4 m.ns.length c4, .slice x5 m.vs.length c5] 32)) := (Below.refl _ _).alloc (Nat.le_refl _) _
  have hat5 := heap_alloc_new w4 (.cells #[.slice x4 m.ns.length c4, .slice x5 m.vs.length c5] 32 (0, 0))
  obtain ⟨w5, hw5⟩ : ∃ w5, w5 = w4.alloc (.cells #[.slice x4 m.ns.length c4, .slice x5 m.vs.length c5] 32) := ⟨_, rfl⟩
  rw [← hw5] at hG5
  have hat5 : w5.heap[w4.heap.size]? = some (.cells #[.slice x4 m.ns.length c4, .slice x5 m.vs.length c5] 32 (0, 0)) := by rw [hw5]; exact hat5
  have hs5 : w5.heap.size = w4.heap.size + 1 := by rw [hw5]; simp
  have hrN5 := hrN.below liesRN hG5
  have hrV5 := hrV.below liesRV hG5
  have hsl := fun W => slice_one (P := Tryd.prog) (t := 30) Tryd.underlying30 infoVdR (by decide) (by decide) #[.int .i64 (i : Int), .int .i64 1, .int .i64 0] rfl W
  have hyN := Lib.hid (show RV w5 (fun _ => False) ⟨(i : Int), 1, 0⟩ (#[.int .i64 (i : Int), .int .i64 1, .int .i64 0] : Array Value).toList from ⟨rfl, Vd.ok_mk ⟨by omega, by omega⟩ ⟨by decide, by decide⟩ ⟨by decide, by decide⟩⟩)
  have hF0 := Lib.hid (show ∀ k : Nat, (fun _ : Nat => False) k → (fun _ : Nat => False) k from fun _ h => h)
  have hA0 := Lib.hid (show ∀ k, (Value.slice x5 m.vs.length c5).ownBlock = some k → ¬ (fun _ : Nat => False) k from fun _ _ h => h)
  have hL0 := Lib.hid (show ∀ k, (fun _ : Nat => False) k → k < w5.heap.size from fun _ h => h.elim)
  have hinfoV := Lib.hid infoVdR
  have hbs5 : w2.heap.size ≤ w5.heap.size := by have := hs4.out; omega
  have hln : m.vs.length ≤ 1000000 := by have := hVl.out; omega
  have c51 : w5.cell? ⟨w4.heap.size, 1, none⟩ = some (.slice x5 m.vs.length c5) := by rw [cell_of_block hat5]; rfl
  replace hrV5 := Lib.hid hrV5
  replace hrN5 := Lib.hid hrN5
  replace hat5 := Lib.hid hat5
  replace hsl := Lib.hid hsl
  replace hw5 := Lib.hid hw5
  replace hG5 := Lib.hid hG5
  replace hs5 := Lib.hid hs5
  clear hb4 a3 g10 g11 g39 hrN hrV
  go_upto_region 10 with fail
  rw [← hw5.out]
  go_wp2_with (first
    | (refine wpList_buildS rfl 30 1 [(0, .tmp 50)] rfl [(0, .agg #[.int .i64 (i : Int), .int .i64 1, .int .i64 0])] rfl _ _ (hsl.out _) ?_)
    | (at_builtin; refine wpList_appRows (P := Tryd.prog) (R := RV) (e := 46) (size := 3) (base := w2.heap.size) (F := fun _ => False) (F' := fun _ => False) rfl liesRV (.tmp 47) (.tmp 51) 30 rfl Tryd.underlying30 24 hinfoV.out (by decide) rfl hrV5 ⟨(i : Int), 1, 0⟩ #[.int .i64 (i : Int), .int .i64 1, .int .i64 0] hyN hF0 hA0 hL0 rfl hln (by decide) hbs5 ?_; intro v8 w8 hr8 hO8 hM8; obtain ⟨a8, n8, c8, hv8⟩ : ∃ a n c, v8 = .slice a n c := (by obtain ⟨a, c, e, _⟩ := hr8.out.form; exact ⟨a, _, c, e⟩); subst hv8; have h8 := hO8.out.heap hat5.out (fun e => by have := (hltV.out _ e).2; omega); have c38 := cell_of_block h8 1; have f38 := free_of_block h8 1; have hU9 := Lib.hid ((Upd.refl h8).setCell (j := 1) (.slice a8 n8 c8)); replace h8 := Lib.hid h8))
  have hs4o := hs4.out
  have hs3o := hs3.out
  have hs2o := hs2.out
  have h5X : w5.heap[w.heap.size + 1]? = some (.cells #[.slice none 0 0, .slice none 0 0] 32 (0, 0)) := (hG5.out.block _ (block_lt a4.out)).trans a4.out
  have h8X := hO8.out.heap h5X (fun e => by have := (hltV.out _ e).1; omega)
  have aX := (hU9.out.block _ (by omega)).trans h8X
  have c5X := (hG5.out.cell (World.block_lt_of_cell? w4 _ h11)).trans h11
  have c8X := (World.cell?_of_block (a := ⟨w.heap.size, 1, none⟩) (hO8.out.block w.heap.size (by have := hG5.out.size; omega) (fun e => by have := (hltV.out _ e).1; omega))).trans c5X
  have cX := (World.cell?_of_block (a := ⟨w.heap.size, 1, none⟩) (hU9.out.block w.heap.size (by omega))).trans c8X
  have hO9 : Only (fun k => k = w4.heap.size) w8 _ := Only.ofUpd hU9.out rfl
  have hrNX := (hrN5.out.only liesRN hO8.out (fun k hk => hk.elim) (fun k hk e => hav k hk e)).only liesRN hO9 (fun k hk => hk.elim) (fun k hk e => by have := (hltN.out k hk).2; omega)
  have hrVX := hr8.out.only liesRV hO9 (fun k hk => hk.elim) (fun k hk e => by
    rcases hM8.out k hk with h | h
    · have := (hltV.out k h).2; omega
    · have := hs5.out; omega)
  have hBX := ((hB4.out.trans (hG5.out.mono hB4.out.size)).trans (hO8.out.below (B := w.heap.size) (by have := hG5.out.size; have := hB4.out.size; omega) (fun k hk => by have := (hltV.out k hk).1; omega))).trans (hU9.out.below (by omega))
  have hatX := hU9.out.here
  have hltX := block_lt hatX
  obtain ⟨CM, hCM⟩ : ∃ CM : Array Value, CM = #[.slice x4 m.ns.length c4, .slice a8 n8 c8] := ⟨_, rfl⟩
  have hatX2 : ((w8.setCell ⟨w4.heap.size, 1, none⟩ (.slice a8 n8 c8))).heap[w4.heap.size]? = some (.cells CM 32 (0, 0)) := by rw [hCM]; exact hatX
  obtain ⟨wX, hwX⟩ : ∃ wX, wX = w8.setCell ⟨w4.heap.size, 1, none⟩ (.slice a8 n8 c8) := ⟨_, rfl⟩
  rw [← hwX] at aX cX hrNX hrVX hBX hatX2
  rw [← hwX]
  have hd0 : Hid (Only (fun k => k = w.heap.size + 1) wX wX.drew) := Lib.hid ((Only.refl _ _).drew)
  have hne4 : w4.heap.size ≠ w.heap.size + 1 := by omega
  have rlA : ∀ W : World, Only (fun k => k = w.heap.size + 1) wX W → W.heap[w4.heap.size]? = some (.cells CM 32 (0, 0)) := fun W hW => hW.heap hatX2 hne4
  have hcW : ∀ W : World, Only (fun k => k = w.heap.size + 1) wX W → W.cell? ⟨w.heap.size, 1, none⟩ = some (.slice av V cv) := fun W hW => (World.cell?_of_block (a := ⟨w.heap.size, 1, none⟩) (hW.block _ (World.block_lt_of_cell? wX _ cX) (fun e => by simp at e))).trans cX
  have huA : Tryd.prog.underlying 32 = _ := Tryd.underlying32
  have hzA : (Tryd.prog.info? 32).map (·.size) = some CM.size := by rw [hCM]; kernel_rfl
  have h1M : CM.all (·.oneCell') = true := by rw [hCM]; simp [Value.oneCell']
  have hss : (#[.slice none 0 0, .slice none 0 0] : Array Value).size = CM.size := by rw [hCM]; rfl
  replace aX : Hid (wX.drew.heap[w.heap.size + 1]? = some (.cells #[.slice none 0 0, .slice none 0 0] 32 (0, 0))) := Lib.hid aX
  replace hrNX := Lib.hid hrNX
  replace hrVX := Lib.hid hrVX
  replace hBX := Lib.hid hBX
  replace hwX := Lib.hid hwX
  replace hCM := Lib.hid hCM
  replace hatX2 := Lib.hid hatX2
  clear hatX hltX hO9 cX c8X c5X h8X h5X hs4o hs3o hs2o hU9 c38 f38 c51 hne4
  refine wp_region_held_drew (S := (Only (fun k => k = w.heap.size + 1) wX)) (by kernel_rfl) hd0.out (fun hOn => ?_)
  generalize World.drew wX = wd at *
  refine wpAnyH_take (i := 0) (v := Value.agg _) (by simp only [List.getElem?_toArray, List.getElem?_cons_zero]; rfl) (by kernel_rfl) (by kernel_rfl) (by kernel_rfl) (by exact fun _ _ _ h => h) (Or.inl ⟨by rfl, fun W hSW => yields_load_row _ _ rfl _ _ _ rfl (rlA W hSW) huA rfl hzA⟩) hOn ?_
  try simp only [Act.put, List.setIfInBounds_toArray, List.set_cons_zero, List.set_cons_succ]
  refine wpAnyH_take (i := 1) (v := ?_) (by simp only [List.getElem?_toArray, List.getElem?_cons_succ, List.getElem?_cons_zero]; rfl) (by kernel_rfl) (by kernel_rfl) (by kernel_rfl) (by exact fun _ _ _ h => h) (Or.inl ⟨by rfl, ?_⟩) hOn ?_
  rotate_left
  focus (intro W hSW; go_simp; try with_reducible rfl)
  try simp only [Act.put, List.setIfInBounds_toArray, List.set_cons_zero, List.set_cons_succ]
  refine wpAnyH_take (i := 2) (v := ?_) (by simp only [List.getElem?_toArray, List.getElem?_cons_succ, List.getElem?_cons_zero]; rfl) (by kernel_rfl) (by kernel_rfl) (by kernel_rfl) (by exact fun _ _ _ h => h) (Or.inl ⟨by rfl, ?_⟩) hOn ?_
  rotate_left
  focus (intro W hSW; go_simp; try with_reducible rfl)
  try simp only [Act.put, List.setIfInBounds_toArray, List.set_cons_zero, List.set_cons_succ]
  refine wpAnyH_take (i := 3) (v := ?_) (by simp only [List.getElem?_toArray, List.getElem?_cons_succ, List.getElem?_cons_zero]; rfl) (by kernel_rfl) (by kernel_rfl) (by kernel_rfl) (by exact fun _ _ _ h => h) (Or.inl ⟨by rfl, ?_⟩) hOn ?_
  rotate_left
  focus (intro W hSW; go_simp; try with_reducible rfl)
  try simp only [Act.put, List.setIfInBounds_toArray, List.set_cons_zero, List.set_cons_succ]
  refine wpAnyH_ready (rs := [4]) (by kernel_rfl) (by simp) ?_
  refine AllReadyH.cons (by simp only [List.getElem?_toArray, List.getElem?_cons_succ, List.getElem?_cons_zero]; rfl) (fun Kz hKz => ?_) AllReadyH.nil
  rw [if_pos (by rfl)]
  (with_reducible refine wp_store_rowK 32 (.tmp 6) (.tmp 54) rfl (w.heap.size + 1) #[.slice none 0 0, .slice none 0 0] CM rfl rfl aX hzA hss h1M ?_)
  intro w9 hU9
  have hS := hOn.trans (Only.ofUpd (D := fun k => k = w.heap.size + 1) hU9.out rfl) (fun _ _ e => e)
  have hres := Lib.hid hU9.out.here
  refine hKz.out _ _ (by first | exact hS | exact Below.trans hOn (Below.mono hnew (Below.size hOn))) (fun hNext => ?_)
  clear hKz Kz hOn
  have hOn := hNext
  clear hNext
  try clear hnew
  try clear hS
  try simp only [Act.put]
  refine wpAnyH_take (i := 5) (v := ?_) (by simp only [List.getElem?_toArray, List.getElem?_cons_succ, List.getElem?_cons_zero]; rfl) (by kernel_rfl) (by kernel_rfl) (by kernel_rfl) (by exact fun _ _ _ h => h) (Or.inl ⟨by rfl, ?_⟩) hOn ?_
  rotate_left
  focus (intro W hSW; go_simp; try with_reducible rfl)
  try simp only [Act.put, List.setIfInBounds_toArray, List.set_cons_zero, List.set_cons_succ]
  refine wpAnyH_take (i := 6) (v := ?_) (by simp only [List.getElem?_toArray, List.getElem?_cons_succ, List.getElem?_cons_zero]; rfl) (by kernel_rfl) (by kernel_rfl) (by kernel_rfl) (by exact fun _ _ _ h => h) (Or.inl ⟨by rfl, ?_⟩) hOn ?_
  rotate_left
  focus (intro W hSW; go_simp; try with_reducible rfl)
  try simp only [Act.put, List.setIfInBounds_toArray, List.set_cons_zero, List.set_cons_succ]
  refine wpAnyH_done (by kernel_rfl) ?_ _
  all_goals
    go_wp2_with fail
    have hs4o := hs4.out
    have hs3o := hs3.out
    have hs2o := hs2.out
    rw [hCM.out] at hres
    refine ret_cell_tmp2 (c := #[.slice x4 m.ns.length c4, .slice a8 n8 c8]) rfl rfl huA rfl (by kernel_rfl) hres.out ?_
    refine ⟨_, rfl, argM_of (hrNX.out.only liesRN hOn (fun k hk => hk.elim) (fun k hk e => by have := (hltN.out k hk).1; omega)) (hrVX.out.only liesRV hOn (fun k hk => hk.elim) (fun k hk e => by have := (hrVX.out.ownLt k hk).1; omega)), hBX.out.trans (hOn.below (by have := hBX.out.size; omega) (fun k e => by omega))⟩

set_option maxRecDepth 100000 in
set_option maxHeartbeats 1000000 in
theorem rasked_2 (va : Value) (m : Md) (w : World) (ha : ArgM w va m) (l1 : m.ns.length ≤ 1000) (l2 : m.vs.length ≤ 1000) (i : Nat) (hi : i < m.ns.length) (hk : m.ns[i].k = true) (hpn : ∀ x ∈ m.ns, 0 ≤ x.p.n ∧ x.p.n ≤ 1000) (hL : mLeft m (i : Int) ≠ 0) :
    Calls Tryd.prog 20 #[va, .int .i64 (i : Int), .int .i64 2] w (RNPost ⟨m.ns, m.vs ++ [⟨(i : Int), 2, 0⟩]⟩ (m.vs.length : Int) 0 w) := by
  have ha0 := ha
  obtain ⟨⟨an, cn, av, cv, rfl, hN, hN1, hN2, hV, hV1, hV2⟩, okN, okV⟩ := ha
  have hB : Below w.heap.size w ((w.alloc (.cells #[.slice an m.ns.length cn, .slice av m.vs.length cv] 32)).alloc (.cells #[.slice none 0 0, .slice none 0 0] 32)) := ((Below.refl _ _).alloc (Nat.le_refl _) _).alloc (by simp) _
  obtain ⟨w2, hw2⟩ : ∃ w2, w2 = (w.alloc (.cells #[.slice an m.ns.length cn, .slice av m.vs.length cv] 32)).alloc (.cells #[.slice none 0 0, .slice none 0 0] 32) := ⟨_, rfl⟩
  have e10 : w2.cell? ⟨w.heap.size, 0, none⟩ = some (.slice an m.ns.length cn) := by rw [hw2]; exact cellAfter (cell_of_block (heap_alloc_new w _) 0) _
  have e11 : w2.cell? ⟨w.heap.size, 1, none⟩ = some (.slice av m.vs.length cv) := by rw [hw2]; exact cellAfter (cell_of_block (heap_alloc_new w _) 1) _
  have a2 : w2.heap[w.heap.size + 1]? = some (.cells #[.slice none 0 0, .slice none 0 0] 32 (0, 0)) := by
    have h1 := heap_alloc_new (w.alloc (.cells #[.slice an m.ns.length cn, .slice av m.vs.length cv] 32)) (.cells #[.slice none 0 0, .slice none 0 0] 32 (0, 0))
    rw [World.size_alloc] at h1
    rw [hw2]
    exact h1
  rw [← hw2] at hB
  have hs2 : w2.heap.size = w.heap.size + 2 := by rw [hw2]; simp
  obtain ⟨b, o, hab, hr⟩ := hN i hi
  have ok39 : w.cell? ⟨b, o + i * 40 + 39, none⟩ = some (.bool true) := hr 39 _ (by rw [Nm.c39 (okN _ (List.getElem_mem hi)).f, hk])
  subst hab
  have hlf : ∀ W, Below w.heap.size w W → Calls Tryd.prog 12 #[.agg #[.slice (some ⟨b, o, none⟩) m.ns.length cn, .slice av m.vs.length cv], .int .i64 (i : Int)] W fun x w' => x = .returned (.int .i64 (mLeft m (i : Int))) ∧ Below W.heap.size W w' := fun W hW => rleft_any _ m W (ha0.below hW (Nat.le_refl _)) l1 l2 (i : Int) hpn
  generalize mLeft m (i : Int) = L at *
  have hLz : (L == 0) = false := by simpa using hL
  clear hL hpn
  have hap : ∀ W, Below w.heap.size w W → Calls Tryd.prog 34 #[.agg #[.slice (some ⟨b, o, none⟩) m.ns.length cn, .slice av m.vs.length cv]] W (CopiedPost W m) := fun W hW => copied_any _ m W (ha0.below hW (Nat.le_refl _)) l1 l2
  obtain ⟨N, hNl⟩ : ∃ N, N = m.ns.length := ⟨_, rfl⟩
  obtain ⟨V, hVl⟩ : ∃ V, V = m.vs.length := ⟨_, rfl⟩
  rw [← hNl, ← hVl] at hap hlf
  rw [← hNl] at e10 hi l1
  rw [← hVl] at e11 l2
  rw [← hNl, ← hVl]
  rw [← hNl, ← hVl] at hw2
  have hii : (i : Int) < (N : Int) := by omega
  have k39 := (hB.cell (World.block_lt_of_cell? w _ ok39)).trans ok39
  replace hlf := Lib.hid hlf
  replace hap := Lib.hid hap
  replace hNl := Lib.hid hNl
  replace hVl := Lib.hid hVl
  have g10 := e10
  have g11 := e11
  have g39 := k39
  rw [hw2] at e10 e11 k39
  have hi0 : ¬ ((i : Int) < 0) := by omega
  replace hw2 := Lib.hid hw2
  replace g10 := Lib.hid g10
  replace g11 := Lib.hid g11
  replace g39 := Lib.hid g39
  replace a2 := Lib.hid a2
  replace hB := Lib.hid hB
  replace hs2 := Lib.hid hs2
  clear hN hV ha0 okN okV hr hk hN1 hN2 hV1 hV2
  go_enter Tryd.func20, Tryd.ntmps20
  go_wp2_with fail
  rw [← hw2.out]
  clear hw2
  with_reducible refine (hlf.out w2 hB.out).mono ?_
  clear hlf
  rintro x w3 ⟨rfl, hb3⟩
  clear e10 e11 k39
  replace g10 := (hb3.cell (World.block_lt_of_cell? w2 _ g10.out)).trans g10.out
  replace g11 := (hb3.cell (World.block_lt_of_cell? w2 _ g11.out)).trans g11.out
  replace g39 := (hb3.cell (World.block_lt_of_cell? w2 _ g39.out)).trans g39.out
  have a3 := Lib.hid ((hb3.block _ (block_lt a2.out)).trans a2.out)
  have hB3 := Lib.hid (hB.out.trans (hb3.mono hB.out.size))
  have hs3 := Lib.hid hb3.size
  clear hb3 a2 hB
  go_wp2_with fail
  with_reducible refine (hap.out w3 hB3.out).mono ?_
  clear hap
  rintro x w4 ⟨v, v', rfl, hrN, hrV, hav, hb4⟩
  obtain ⟨x4, c4, hv4, _⟩ := hrN.form
  obtain ⟨x5, c5, hv5, _⟩ := hrV.form
  subst hv4 hv5
  have hltV := Lib.hid (fun k (hk : (Value.slice x5 m.vs.length c5).ownBlock = some k) => hrV.ownLt k hk)
  have hltN := Lib.hid (fun k (hk : (Value.slice x4 m.ns.length c4).ownBlock = some k) => hrN.ownLt k hk)
  have h11 := (hb4.cell (World.block_lt_of_cell? w3 _ g11)).trans g11
  have a4 := Lib.hid ((hb4.block _ (block_lt a3.out)).trans a3.out)
  have hB4 := Lib.hid (hB3.out.trans (hb4.mono hB3.out.size))
  have hs4 := Lib.hid hb4.size
  have hG5 : Below w4.heap.size w4 (w4.alloc (.cells #[.slice x4 m.ns.length c4, .slice x5 m.vs.length c5] 32)) := (Below.refl _ _).alloc (Nat.le_refl _) _
  have hat5 := heap_alloc_new w4 (.cells #[.slice x4 m.ns.length c4, .slice x5 m.vs.length c5] 32 (0, 0))
  obtain ⟨w5, hw5⟩ : ∃ w5, w5 = w4.alloc (.cells #[.slice x4 m.ns.length c4, .slice x5 m.vs.length c5] 32) := ⟨_, rfl⟩
  rw [← hw5] at hG5
  have hat5 : w5.heap[w4.heap.size]? = some (.cells #[.slice x4 m.ns.length c4, .slice x5 m.vs.length c5] 32 (0, 0)) := by rw [hw5]; exact hat5
  have hs5 : w5.heap.size = w4.heap.size + 1 := by rw [hw5]; simp
  have hrN5 := hrN.below liesRN hG5
  have hrV5 := hrV.below liesRV hG5
  have hsl := fun W => slice_one (P := Tryd.prog) (t := 30) Tryd.underlying30 infoVdR (by decide) (by decide) #[.int .i64 (i : Int), .int .i64 2, .int .i64 0] rfl W
  have hyN := Lib.hid (show RV w5 (fun _ => False) ⟨(i : Int), 2, 0⟩ (#[.int .i64 (i : Int), .int .i64 2, .int .i64 0] : Array Value).toList from ⟨rfl, Vd.ok_mk ⟨by omega, by omega⟩ ⟨by decide, by decide⟩ ⟨by decide, by decide⟩⟩)
  have hF0 := Lib.hid (show ∀ k : Nat, (fun _ : Nat => False) k → (fun _ : Nat => False) k from fun _ h => h)
  have hA0 := Lib.hid (show ∀ k, (Value.slice x5 m.vs.length c5).ownBlock = some k → ¬ (fun _ : Nat => False) k from fun _ _ h => h)
  have hL0 := Lib.hid (show ∀ k, (fun _ : Nat => False) k → k < w5.heap.size from fun _ h => h.elim)
  have hinfoV := Lib.hid infoVdR
  have hbs5 : w3.heap.size ≤ w5.heap.size := by have := hs4.out; omega
  have hln : m.vs.length ≤ 1000000 := by have := hVl.out; omega
  have c51 : w5.cell? ⟨w4.heap.size, 1, none⟩ = some (.slice x5 m.vs.length c5) := by rw [cell_of_block hat5]; rfl
  replace hrV5 := Lib.hid hrV5
  replace hrN5 := Lib.hid hrN5
  replace hat5 := Lib.hid hat5
  replace hsl := Lib.hid hsl
  replace hw5 := Lib.hid hw5
  replace hG5 := Lib.hid hG5
  replace hs5 := Lib.hid hs5
  clear hb4 a3 g10 g11 g39 hrN hrV
  go_upto_region 10 with fail
  rw [← hw5.out]
  go_wp2_with (first
    | (refine wpList_buildS rfl 30 1 [(0, .tmp 50)] rfl [(0, .agg #[.int .i64 (i : Int), .int .i64 2, .int .i64 0])] rfl _ _ (hsl.out _) ?_)
    | (at_builtin; refine wpList_appRows (P := Tryd.prog) (R := RV) (e := 46) (size := 3) (base := w3.heap.size) (F := fun _ => False) (F' := fun _ => False) rfl liesRV (.tmp 47) (.tmp 51) 30 rfl Tryd.underlying30 24 hinfoV.out (by decide) rfl hrV5 ⟨(i : Int), 2, 0⟩ #[.int .i64 (i : Int), .int .i64 2, .int .i64 0] hyN hF0 hA0 hL0 rfl hln (by decide) hbs5 ?_; intro v8 w8 hr8 hO8 hM8; obtain ⟨a8, n8, c8, hv8⟩ : ∃ a n c, v8 = .slice a n c := (by obtain ⟨a, c, e, _⟩ := hr8.out.form; exact ⟨a, _, c, e⟩); subst hv8; have h8 := hO8.out.heap hat5.out (fun e => by have := (hltV.out _ e).2; omega); have c38 := cell_of_block h8 1; have f38 := free_of_block h8 1; have hU9 := Lib.hid ((Upd.refl h8).setCell (j := 1) (.slice a8 n8 c8)); replace h8 := Lib.hid h8))
  have hs4o := hs4.out
  have hs3o := hs3.out
  have hs2o := hs2.out
  have h5X : w5.heap[w.heap.size + 1]? = some (.cells #[.slice none 0 0, .slice none 0 0] 32 (0, 0)) := (hG5.out.block _ (block_lt a4.out)).trans a4.out
  have h8X := hO8.out.heap h5X (fun e => by have := (hltV.out _ e).1; omega)
  have aX := (hU9.out.block _ (by omega)).trans h8X
  have c5X := (hG5.out.cell (World.block_lt_of_cell? w4 _ h11)).trans h11
  have c8X := (World.cell?_of_block (a := ⟨w.heap.size, 1, none⟩) (hO8.out.block w.heap.size (by have := hG5.out.size; omega) (fun e => by have := (hltV.out _ e).1; omega))).trans c5X
  have cX := (World.cell?_of_block (a := ⟨w.heap.size, 1, none⟩) (hU9.out.block w.heap.size (by omega))).trans c8X
  have hO9 : Only (fun k => k = w4.heap.size) w8 _ := Only.ofUpd hU9.out rfl
  have hrNX := (hrN5.out.only liesRN hO8.out (fun k hk => hk.elim) (fun k hk e => hav k hk e)).only liesRN hO9 (fun k hk => hk.elim) (fun k hk e => by have := (hltN.out k hk).2; omega)
  have hrVX := hr8.out.only liesRV hO9 (fun k hk => hk.elim) (fun k hk e => by
    rcases hM8.out k hk with h | h
    · have := (hltV.out k h).2; omega
    · have := hs5.out; omega)
  have hBX := ((hB4.out.trans (hG5.out.mono hB4.out.size)).trans (hO8.out.below (B := w.heap.size) (by have := hG5.out.size; have := hB4.out.size; omega) (fun k hk => by have := (hltV.out k hk).1; omega))).trans (hU9.out.below (by omega))
  have hatX := hU9.out.here
  have hltX := block_lt hatX
  obtain ⟨CM, hCM⟩ : ∃ CM : Array Value, CM = #[.slice x4 m.ns.length c4, .slice a8 n8 c8] := ⟨_, rfl⟩
  have hatX2 : ((w8.setCell ⟨w4.heap.size, 1, none⟩ (.slice a8 n8 c8))).heap[w4.heap.size]? = some (.cells CM 32 (0, 0)) := by rw [hCM]; exact hatX
  obtain ⟨wX, hwX⟩ : ∃ wX, wX = w8.setCell ⟨w4.heap.size, 1, none⟩ (.slice a8 n8 c8) := ⟨_, rfl⟩
  rw [← hwX] at aX cX hrNX hrVX hBX hatX2
  rw [← hwX]
  have hd0 : Hid (Only (fun k => k = w.heap.size + 1) wX wX.drew) := Lib.hid ((Only.refl _ _).drew)
  have hne4 : w4.heap.size ≠ w.heap.size + 1 := by omega
  have rlA : ∀ W : World, Only (fun k => k = w.heap.size + 1) wX W → W.heap[w4.heap.size]? = some (.cells CM 32 (0, 0)) := fun W hW => hW.heap hatX2 hne4
  have hcW : ∀ W : World, Only (fun k => k = w.heap.size + 1) wX W → W.cell? ⟨w.heap.size, 1, none⟩ = some (.slice av V cv) := fun W hW => (World.cell?_of_block (a := ⟨w.heap.size, 1, none⟩) (hW.block _ (World.block_lt_of_cell? wX _ cX) (fun e => by simp at e))).trans cX
  have huA : Tryd.prog.underlying 32 = _ := Tryd.underlying32
  have hzA : (Tryd.prog.info? 32).map (·.size) = some CM.size := by rw [hCM]; kernel_rfl
  have h1M : CM.all (·.oneCell') = true := by rw [hCM]; simp [Value.oneCell']
  have hss : (#[.slice none 0 0, .slice none 0 0] : Array Value).size = CM.size := by rw [hCM]; rfl
  replace aX : Hid (wX.drew.heap[w.heap.size + 1]? = some (.cells #[.slice none 0 0, .slice none 0 0] 32 (0, 0))) := Lib.hid aX
  replace hrNX := Lib.hid hrNX
  replace hrVX := Lib.hid hrVX
  replace hBX := Lib.hid hBX
  replace hwX := Lib.hid hwX
  replace hCM := Lib.hid hCM
  replace hatX2 := Lib.hid hatX2
  clear hatX hltX hO9 cX c8X c5X h8X h5X hs4o hs3o hs2o hU9 c38 f38 c51 hne4
  refine wp_region_held_drew (S := (Only (fun k => k = w.heap.size + 1) wX)) (by kernel_rfl) hd0.out (fun hOn => ?_)
  generalize World.drew wX = wd at *
  refine wpAnyH_take (i := 0) (v := Value.agg _) (by simp only [List.getElem?_toArray, List.getElem?_cons_zero]; rfl) (by kernel_rfl) (by kernel_rfl) (by kernel_rfl) (by exact fun _ _ _ h => h) (Or.inl ⟨by rfl, fun W hSW => yields_load_row _ _ rfl _ _ _ rfl (rlA W hSW) huA rfl hzA⟩) hOn ?_
  try simp only [Act.put, List.setIfInBounds_toArray, List.set_cons_zero, List.set_cons_succ]
  refine wpAnyH_take (i := 1) (v := ?_) (by simp only [List.getElem?_toArray, List.getElem?_cons_succ, List.getElem?_cons_zero]; rfl) (by kernel_rfl) (by kernel_rfl) (by kernel_rfl) (by exact fun _ _ _ h => h) (Or.inl ⟨by rfl, ?_⟩) hOn ?_
  rotate_left
  focus (intro W hSW; go_simp; try with_reducible rfl)
  try simp only [Act.put, List.setIfInBounds_toArray, List.set_cons_zero, List.set_cons_succ]
  refine wpAnyH_take (i := 2) (v := ?_) (by simp only [List.getElem?_toArray, List.getElem?_cons_succ, List.getElem?_cons_zero]; rfl) (by kernel_rfl) (by kernel_rfl) (by kernel_rfl) (by exact fun _ _ _ h => h) (Or.inl ⟨by rfl, ?_⟩) hOn ?_
  rotate_left
  focus (intro W hSW; go_simp; try with_reducible rfl)
  try simp only [Act.put, List.setIfInBounds_toArray, List.set_cons_zero, List.set_cons_succ]
  refine wpAnyH_take (i := 3) (v := ?_) (by simp only [List.getElem?_toArray, List.getElem?_cons_succ, List.getElem?_cons_zero]; rfl) (by kernel_rfl) (by kernel_rfl) (by kernel_rfl) (by exact fun _ _ _ h => h) (Or.inl ⟨by rfl, ?_⟩) hOn ?_
  rotate_left
  focus (intro W hSW; go_simp; try with_reducible rfl)
  try simp only [Act.put, List.setIfInBounds_toArray, List.set_cons_zero, List.set_cons_succ]
  refine wpAnyH_ready (rs := [4]) (by kernel_rfl) (by simp) ?_
  refine AllReadyH.cons (by simp only [List.getElem?_toArray, List.getElem?_cons_succ, List.getElem?_cons_zero]; rfl) (fun Kz hKz => ?_) AllReadyH.nil
  rw [if_pos (by rfl)]
  (with_reducible refine wp_store_rowK 32 (.tmp 6) (.tmp 54) rfl (w.heap.size + 1) #[.slice none 0 0, .slice none 0 0] CM rfl rfl aX hzA hss h1M ?_)
  intro w9 hU9
  have hS := hOn.trans (Only.ofUpd (D := fun k => k = w.heap.size + 1) hU9.out rfl) (fun _ _ e => e)
  have hres := Lib.hid hU9.out.here
  refine hKz.out _ _ (by first | exact hS | exact Below.trans hOn (Below.mono hnew (Below.size hOn))) (fun hNext => ?_)
  clear hKz Kz hOn
  have hOn := hNext
  clear hNext
  try clear hnew
  try clear hS
  try simp only [Act.put]
  refine wpAnyH_take (i := 5) (v := ?_) (by simp only [List.getElem?_toArray, List.getElem?_cons_succ, List.getElem?_cons_zero]; rfl) (by kernel_rfl) (by kernel_rfl) (by kernel_rfl) (by exact fun _ _ _ h => h) (Or.inl ⟨by rfl, ?_⟩) hOn ?_
  rotate_left
  focus (intro W hSW; go_simp; try with_reducible rfl)
  try simp only [Act.put, List.setIfInBounds_toArray, List.set_cons_zero, List.set_cons_succ]
  refine wpAnyH_take (i := 6) (v := ?_) (by simp only [List.getElem?_toArray, List.getElem?_cons_succ, List.getElem?_cons_zero]; rfl) (by kernel_rfl) (by kernel_rfl) (by kernel_rfl) (by exact fun _ _ _ h => h) (Or.inl ⟨by rfl, ?_⟩) hOn ?_
  rotate_left
  focus (intro W hSW; go_simp; try with_reducible rfl)
  try simp only [Act.put, List.setIfInBounds_toArray, List.set_cons_zero, List.set_cons_succ]
  refine wpAnyH_done (by kernel_rfl) ?_ _
  all_goals
    go_wp2_with fail
    have hs4o := hs4.out
    have hs3o := hs3.out
    have hs2o := hs2.out
    rw [hCM.out] at hres
    refine ret_cell_tmp2 (c := #[.slice x4 m.ns.length c4, .slice a8 n8 c8]) rfl rfl huA rfl (by kernel_rfl) hres.out ?_
    refine ⟨_, rfl, argM_of (hrNX.out.only liesRN hOn (fun k hk => hk.elim) (fun k hk e => by have := (hltN.out k hk).1; omega)) (hrVX.out.only liesRV hOn (fun k hk => hk.elim) (fun k hk e => by have := (hrVX.out.ownLt k hk).1; omega)), hBX.out.trans (hOn.below (by have := hBX.out.size; omega) (fun k e => by omega))⟩
end Go.Proofs.YtndgacjfkoliaaaDoor
