/- model.Judged, and the document's Kept, Judged where they go well. Printed by genmgood.py. -/
import Derived.Test.YtndgacjfkoliaaaDoorF22PlaysSaid34
import Derived.Test.YtndgacjfkoliaaaDoorF32PlaysSaid34
namespace Go.Proofs.YtndgacjfkoliaaaDoor
open Go.RowKit
set_option linter.unusedSimpArgs false
set_option linter.unusedVariables false

theorem rowsV_set {e : TypeId} {base g n c : Nat} {w : World} {vs : List Vd} (h : RowsOf RV e 3 base w (fun _ => False) (.slice (some ⟨g, 0, none⟩) n c) vs) (hok : ∀ x ∈ vs, x.Ok) (i : Nat) (hi : i < vs.length) (v : Int) (hv : inI v) : RowsOf RV e 3 base (w.setCell ⟨g, i * 3 + 2, none⟩ (.int .i64 v)) (fun _ => False) (.slice (some ⟨g, 0, none⟩) n c) (vs.set i { vs[i] with v := v }) := by
  have h1 := rowsOf_flat (enc := Vd.list) (fun _ _ _ _ h => h.1) h
  have hn : n = vs.length := by
    obtain ⟨a, c', e1, _⟩ := h.form
    cases e1
    rfl
  subst hn
  have h2 := (World.ownsRow.stored h1 (i * 3 + 2) (.int .i64 v)).1
  rw [flatMap_set (enc := Vd.list) (size := 3) (.int .i64 v) { vs[i] with v := v } vs (fun x hx => rfl) i 2 hi (by decide) rfl] at h2
  refine rowsOf_own (fun x hx => ⟨rfl, ?_⟩) (by rw [List.length_set]; exact h2)
  rcases List.mem_or_eq_of_mem_set hx with hx | hx
  · exact hok x hx
  · have := hok _ (List.getElem_mem hi); rw [hx]; exact ⟨this.1, this.2.1, hv⟩
set_option maxRecDepth 100000 in
set_option maxHeartbeats 2000000 in
theorem mjudged_good (va : Value) (m : Md) (w : World) (ha : ArgM w va m) (l1 : m.ns.length ≤ 1000) (l2 : m.vs.length ≤ 1000) (v : Int) (hvI : inI v) (hv1 : 1 ≤ v) (hv3 : v ≤ 3) (i : Nat) (hi : i < m.vs.length) (hk : (m.vs[i]).v = 0) :
    Calls Tryd.prog 21 #[va, .int .i64 (i : Int), .int .i64 v] w (KeptPost w ⟨m.ns, m.vs.set i { m.vs[i] with v := v }⟩) := by
  have ha0 := ha
  obtain ⟨⟨an, cn, av, cv, rfl, hN, -, -, hV, -, -⟩, okN, okV⟩ := ha
  obtain ⟨b, o, hab, hr⟩ := hV i hi
  have kf : w.cell? ⟨b, o + i * 3 + 2, none⟩ = some (.int .i64 0) := hr 2 _ (by show some (Value.int .i64 (m.vs[i]).v) = _; rw [hk])
  subst hab
  have hap := Lib.hid (fun W (hW : Below w.heap.size w W) => show Calls Tryd.prog 31 #[.agg #[.slice an m.ns.length cn, .slice (some ⟨b, o, none⟩) m.vs.length cv]] W (ApartPost W m) from apart_any _ m W (ha0.below hW (Nat.le_refl _)) l1 l2)
  have hset := Lib.hid (fun (W : World) (base g n c : Nat) (h : RowsOf RV 70 3 base W (fun _ => False) (.slice (some ⟨g, 0, none⟩) n c) m.vs) => rowsV_set h okV i hi v hvI)
  have hpost : Hid (∀ (vm : Value) (W : World), ArgM W vm ⟨m.ns, m.vs.set i { m.vs[i] with v := v }⟩ → Below w.heap.size w W → (KeptPost w ⟨m.ns, m.vs.set i { m.vs[i] with v := v }⟩) (.returned (.tuple #[vm, .nilIface])) W) := Lib.hid (fun vm W h1 h2 => ⟨vm, rfl, h1, h2⟩)
  obtain ⟨xs', hxs'⟩ : ∃ xs', xs' = m.vs.set i { m.vs[i] with v := v } := ⟨_, rfl⟩
  rw [← hxs'] at hset hpost ⊢
  have hl' : xs'.length = m.vs.length := by rw [hxs', List.length_set]
  obtain ⟨N, hNl⟩ : ∃ N, N = m.ns.length := ⟨_, rfl⟩
  obtain ⟨V, hVl⟩ : ∃ V, V = m.vs.length := ⟨_, rfl⟩
  obtain ⟨a1, a2, hs2, hB⟩ := boxes2 w #[.slice an m.ns.length cn, .slice (some ⟨b, o, none⟩) m.vs.length cv] #[.slice none 0 0, .slice none 0 0] 28 28 _ rfl
  obtain ⟨w2, hw2⟩ : ∃ w2, w2 = (w.alloc (.cells #[.slice an m.ns.length cn, .slice (some ⟨b, o, none⟩) m.vs.length cv] 28)).alloc (.cells #[.slice none 0 0, .slice none 0 0] 28) := ⟨_, rfl⟩
  rw [← hw2] at a1 a2 hB hs2
  have e10 := cell_of_block a1 0
  have e11 := cell_of_block a1 1
  replace e10 : w2.cell? ⟨w.heap.size, 0, none⟩ = some (.slice an m.ns.length cn) := e10
  replace e11 : w2.cell? ⟨w.heap.size, 1, none⟩ = some (.slice (some ⟨b, o, none⟩) m.vs.length cv) := e11
  have kf2 := (hB.cell (World.block_lt_of_cell? w _ kf)).trans kf
  rw [← hNl, ← hVl] at hap hw2
  rw [← hNl] at e10
  rw [← hVl] at e11
  rw [← hNl, ← hVl]
  rw [← hVl] at hi
  have hii : (i : Int) < (V : Int) := by omega
  have hi0 : ¬ ((i : Int) < 0) := by omega
  have hv1' : ¬ v < 1 := by omega
  have hv3' : ¬ 3 < v := by omega
  clear hk hv1 hv3
  rw [hw2] at e10 e11 kf2
  replace hw2 := Lib.hid hw2
  replace hxs' := Lib.hid hxs'
  replace hl' := Lib.hid hl'
  replace hNl := Lib.hid hNl
  replace hVl := Lib.hid hVl
  replace a2 := Lib.hid a2
  replace hB := Lib.hid hB
  replace hs2 := Lib.hid hs2
  clear hN hV ha0 okN okV hr kf a1
  go_enter Tryd.func21, Tryd.ntmps21
  go_wp2_with fail
  rw [← hw2.out]
  with_reducible refine (hap.out w2 hB.out).mono ?_
  clear hap e10 e11 kf2 hw2
  rintro x w4 ⟨v, v', rfl, hrN, hrV, hav, hb4⟩
  obtain ⟨a4, c4, hv4, _⟩ := hrN.form
  obtain ⟨a5, c5, hv5, hnil4, _, _, hlt4⟩ := hrV.form
  subst hv4 hv5
  obtain ⟨g4, hg4⟩ : ∃ g4, a5 = some ⟨g4, 0, none⟩ := by
    cases a5 with
    | none => have := (hnil4 rfl).2; have := hVl.out; omega
    | some ad =>
      obtain ⟨b4, o4, s4⟩ := ad
      obtain ⟨rfl, rfl, _⟩ := hlt4 b4 o4 s4 rfl
      exact ⟨b4, rfl⟩
  subst hg4
  have a4' := Lib.hid ((hb4.block _ (block_lt a2.out)).trans a2.out)
  have hB4 := Lib.hid (hB.out.trans (hb4.mono hB.out.size))
  have hs4 := Lib.hid hb4.size
  have hG5 : Below w4.heap.size w4 (w4.alloc (.cells #[.slice a4 m.ns.length c4, .slice (some ⟨g4, 0, none⟩) m.vs.length c5] 28)) := (Below.refl _ _).alloc (Nat.le_refl _) _
  have hS5 := hrV.below liesRV hG5
  have hg4l := hrV.ownLt g4 rfl
  have hat5 := heap_alloc_new w4 (.cells #[.slice a4 m.ns.length c4, .slice (some ⟨g4, 0, none⟩) m.vs.length c5] 28 (0, 0))
  have hown5 := rowsOf_flat (enc := Vd.list) (fun _ _ _ _ h => h.1) hS5
  have hl4 : i < m.vs.length := by rw [← hVl.out]; exact hi
  obtain ⟨u39, hu39⟩ : ∃ u, (w4.alloc (.cells #[.slice a4 m.ns.length c4, .slice (some ⟨g4, 0, none⟩) m.vs.length c5] 28)).cell? ⟨g4, i * 3 + 2, none⟩ = some u := by
    obtain ⟨g, c', cs, e6, ⟨rfl, hok⟩, h7⟩ := hS5.elem liesRV i _ (List.getElem?_eq_getElem hl4)
    cases e6
    exact ⟨_, h7 2 _ (rfl)⟩
  have hfz := World.ownsRow.frozenAt hown5 (i * 3 + 2)
  have hO6 : Only (fun k => k = g4) w4 (w4.setCell ⟨g4, i * 3 + 2, none⟩ (.int .i64 v)) := (Only.refl _ _).setCell _ _ (fun _ => rfl)
  have hsS : (w4.setCell ⟨g4, i * 3 + 2, none⟩ (.int .i64 v)).heap.size = w4.heap.size := by simp
  have hGS : Below (w4.setCell ⟨g4, i * 3 + 2, none⟩ (.int .i64 v)).heap.size (w4.setCell ⟨g4, i * 3 + 2, none⟩ (.int .i64 v)) ((w4.setCell ⟨g4, i * 3 + 2, none⟩ (.int .i64 v)).alloc (.cells #[.slice a4 m.ns.length c4, .slice (some ⟨g4, 0, none⟩) m.vs.length c5] 28)) := (Below.refl _ _).alloc (Nat.le_refl _) _
  have hrV6 := (hset.out _ _ _ _ _ hrV).below liesRV hGS
  have hrN6 := (hrN.only liesRN hO6 (fun k hk => hk.elim) (fun k hk e => hav k hk (by rw [e]; rfl))).below liesRN hGS
  have hat6 : Hid (((w4.setCell ⟨g4, i * 3 + 2, none⟩ (.int .i64 v)).alloc (.cells #[.slice a4 m.ns.length c4, .slice (some ⟨g4, 0, none⟩) m.vs.length c5] 28)).heap[w4.heap.size]? = some (.cells #[.slice a4 m.ns.length c4, .slice (some ⟨g4, 0, none⟩) m.vs.length c5] 28 (0, 0))) := Lib.hid (by
    have := heap_alloc_new (w4.setCell ⟨g4, i * 3 + 2, none⟩ (.int .i64 v)) (.cells #[.slice a4 m.ns.length c4, .slice (some ⟨g4, 0, none⟩) m.vs.length c5] 28 (0, 0))
    rwa [hsS] at this)
  have hs2o := hs2.out
  have hs4o := hs4.out
  have h6 := hO6.heap a4'.out (fun e => by omega)
  have a6 : Hid (((w4.setCell ⟨g4, i * 3 + 2, none⟩ (.int .i64 v)).alloc (.cells #[.slice a4 m.ns.length c4, .slice (some ⟨g4, 0, none⟩) m.vs.length c5] 28)).heap[w.heap.size + 1]? = some (.cells #[.slice none 0 0, .slice none 0 0] 28 (0, 0))) := Lib.hid ((hGS.block _ (block_lt h6)).trans h6)
  have hB6 : Hid (Below w.heap.size w ((w4.setCell ⟨g4, i * 3 + 2, none⟩ (.int .i64 v)).alloc (.cells #[.slice a4 m.ns.length c4, .slice (some ⟨g4, 0, none⟩) m.vs.length c5] 28))) := Lib.hid ((hB4.out.trans (hO6.below (by have := hB4.out.size; omega) (fun k e => by omega))).trans (hGS.mono (by rw [hsS]; exact hB4.out.size)))
  have huM : Tryd.prog.underlying 28 = _ := Tryd.underlying28
  have iM : (Tryd.prog.info? 28).map (·.size) = some (#[.slice a4 m.ns.length c4, .slice (some ⟨g4, 0, none⟩) m.vs.length c5] : Array Value).size := by kernel_rfl
  have h1M : (#[.slice a4 m.ns.length c4, .slice (some ⟨g4, 0, none⟩) m.vs.length c5] : Array Value).all (·.oneCell') = true := by simp [Value.oneCell']
  have hmi : (i : Int) < (m.vs.length : Int) := by omega
  replace hrN6 := Lib.hid hrN6
  replace hrV6 := Lib.hid hrV6
  clear hb4 hnil4 hlt4 hS5 hown5 hO6 hG5 hat5 hs2o hs4o hset hsS hGS h6
  have hwlt := Lib.hid (show w.heap.size + 1 < w4.heap.size from by have := hs2.out; have := hs4.out; omega)
  go_wp2_with (first
    | (refine wpList_load_row rfl 28 (.tmp 8) rfl w4.heap.size #[.slice a4 m.ns.length c4, .slice (some ⟨g4, 0, none⟩) m.vs.length c5] _ rfl hat6 huM rfl iM ?_)
    | (refine wpList_store_row rfl 28 (.tmp 6) (.tmp 48) rfl (w.heap.size + 1) #[.slice none 0 0, .slice none 0 0] #[.slice a4 m.ns.length c4, .slice (some ⟨g4, 0, none⟩) m.vs.length c5] rfl rfl a6 iM rfl h1M ?_; intro w9 hU9))
  refine ret_cell_tmpB (c := #[.slice a4 m.ns.length c4, .slice (some ⟨g4, 0, none⟩) m.vs.length c5]) rfl rfl huM rfl iM hU9.out.here ?_
  have hO9 : Only (fun k => k = w.heap.size + 1) _ w9 := Only.ofUpd hU9.out rfl
  have h2 := hs2.out
  have h4 := hwlt.out
  exact hpost.out _ _ (argM_of (hrN6.out.only liesRN hO9 (fun k hk => hk.elim) (fun k hk e => by have := (hrN6.out.ownLt k hk).1; omega)) (hrV6.out.only liesRV hO9 (fun k hk => hk.elim) (fun k hk e => by have := (hrV6.out.ownLt k hk).1; omega))) (hB6.out.trans (hU9.out.below (by omega)))

set_option maxRecDepth 100000 in
set_option maxHeartbeats 2000000 in
theorem rjudged_good (va : Value) (m : Md) (w : World) (ha : ArgM w va m) (l1 : m.ns.length ≤ 1000) (l2 : m.vs.length ≤ 1000) (v : Int) (hvI : inI v) (hv1 : 1 ≤ v) (hv3 : v ≤ 3) (i : Nat) (hi : i < m.vs.length) (hk : (m.vs[i]).v = 0) :
    Calls Tryd.prog 22 #[va, .int .i64 (i : Int), .int .i64 v] w (RKPost ⟨m.ns, m.vs.set i { m.vs[i] with v := v }⟩ 0 w) := by
  have ha0 := ha
  obtain ⟨⟨an, cn, av, cv, rfl, hN, -, -, hV, -, -⟩, okN, okV⟩ := ha
  obtain ⟨b, o, hab, hr⟩ := hV i hi
  have kf : w.cell? ⟨b, o + i * 3 + 2, none⟩ = some (.int .i64 0) := hr 2 _ (by show some (Value.int .i64 (m.vs[i]).v) = _; rw [hk])
  subst hab
  have hap := Lib.hid (fun W (hW : Below w.heap.size w W) => show Calls Tryd.prog 34 #[.agg #[.slice an m.ns.length cn, .slice (some ⟨b, o, none⟩) m.vs.length cv]] W (CopiedPost W m) from copied_any _ m W (ha0.below hW (Nat.le_refl _)) l1 l2)
  have hset := Lib.hid (fun (W : World) (base g n c : Nat) (h : RowsOf RV 46 3 base W (fun _ => False) (.slice (some ⟨g, 0, none⟩) n c) m.vs) => rowsV_set h okV i hi v hvI)
  have hpost : Hid (∀ (vm : Value) (W : World), ArgM W vm ⟨m.ns, m.vs.set i { m.vs[i] with v := v }⟩ → Below w.heap.size w W → (RKPost ⟨m.ns, m.vs.set i { m.vs[i] with v := v }⟩ 0 w) (.returned (.tuple #[vm, .int .i64 0])) W) := Lib.hid (fun vm W h1 h2 => ⟨vm, rfl, h1, h2⟩)
  obtain ⟨xs', hxs'⟩ : ∃ xs', xs' = m.vs.set i { m.vs[i] with v := v } := ⟨_, rfl⟩
  rw [← hxs'] at hset hpost ⊢
  have hl' : xs'.length = m.vs.length := by rw [hxs', List.length_set]
  obtain ⟨N, hNl⟩ : ∃ N, N = m.ns.length := ⟨_, rfl⟩
  obtain ⟨V, hVl⟩ : ∃ V, V = m.vs.length := ⟨_, rfl⟩
  obtain ⟨a1, a2, hs2, hB⟩ := boxes2 w #[.slice an m.ns.length cn, .slice (some ⟨b, o, none⟩) m.vs.length cv] #[.slice none 0 0, .slice none 0 0] 32 32 _ rfl
  obtain ⟨w2, hw2⟩ : ∃ w2, w2 = (w.alloc (.cells #[.slice an m.ns.length cn, .slice (some ⟨b, o, none⟩) m.vs.length cv] 32)).alloc (.cells #[.slice none 0 0, .slice none 0 0] 32) := ⟨_, rfl⟩
  rw [← hw2] at a1 a2 hB hs2
  have e10 := cell_of_block a1 0
  have e11 := cell_of_block a1 1
  replace e10 : w2.cell? ⟨w.heap.size, 0, none⟩ = some (.slice an m.ns.length cn) := e10
  replace e11 : w2.cell? ⟨w.heap.size, 1, none⟩ = some (.slice (some ⟨b, o, none⟩) m.vs.length cv) := e11
  have kf2 := (hB.cell (World.block_lt_of_cell? w _ kf)).trans kf
  rw [← hNl, ← hVl] at hap hw2
  rw [← hNl] at e10
  rw [← hVl] at e11
  rw [← hNl, ← hVl]
  rw [← hVl] at hi
  have hii : (i : Int) < (V : Int) := by omega
  have hi0 : ¬ ((i : Int) < 0) := by omega
  have hv1' : ¬ v < 1 := by omega
  have hv3' : ¬ 3 < v := by omega
  clear hk hv1 hv3
  rw [hw2] at e10 e11 kf2
  replace hw2 := Lib.hid hw2
  replace hxs' := Lib.hid hxs'
  replace hl' := Lib.hid hl'
  replace hNl := Lib.hid hNl
  replace hVl := Lib.hid hVl
  replace a2 := Lib.hid a2
  replace hB := Lib.hid hB
  replace hs2 := Lib.hid hs2
  clear hN hV ha0 okN okV hr kf a1
  go_enter Tryd.func22, Tryd.ntmps22
  go_wp2_with fail
  rw [← hw2.out]
  with_reducible refine (hap.out w2 hB.out).mono ?_
  clear hap e10 e11 kf2 hw2
  rintro x w4 ⟨v, v', rfl, hrN, hrV, hav, hb4⟩
  obtain ⟨a4, c4, hv4, _⟩ := hrN.form
  obtain ⟨a5, c5, hv5, hnil4, _, _, hlt4⟩ := hrV.form
  subst hv4 hv5
  obtain ⟨g4, hg4⟩ : ∃ g4, a5 = some ⟨g4, 0, none⟩ := by
    cases a5 with
    | none => have := (hnil4 rfl).2; have := hVl.out; omega
    | some ad =>
      obtain ⟨b4, o4, s4⟩ := ad
      obtain ⟨rfl, rfl, _⟩ := hlt4 b4 o4 s4 rfl
      exact ⟨b4, rfl⟩
  subst hg4
  have a4' := Lib.hid ((hb4.block _ (block_lt a2.out)).trans a2.out)
  have hB4 := Lib.hid (hB.out.trans (hb4.mono hB.out.size))
  have hs4 := Lib.hid hb4.size
  have hG5 : Below w4.heap.size w4 (w4.alloc (.cells #[.slice a4 m.ns.length c4, .slice (some ⟨g4, 0, none⟩) m.vs.length c5] 32)) := (Below.refl _ _).alloc (Nat.le_refl _) _
  have hS5 := hrV.below liesRV hG5
  have hg4l := hrV.ownLt g4 rfl
  have hat5 := heap_alloc_new w4 (.cells #[.slice a4 m.ns.length c4, .slice (some ⟨g4, 0, none⟩) m.vs.length c5] 32 (0, 0))
  have hown5 := rowsOf_flat (enc := Vd.list) (fun _ _ _ _ h => h.1) hS5
  have hl4 : i < m.vs.length := by rw [← hVl.out]; exact hi
  obtain ⟨u39, hu39⟩ : ∃ u, (w4.alloc (.cells #[.slice a4 m.ns.length c4, .slice (some ⟨g4, 0, none⟩) m.vs.length c5] 32)).cell? ⟨g4, i * 3 + 2, none⟩ = some u := by
    obtain ⟨g, c', cs, e6, ⟨rfl, hok⟩, h7⟩ := hS5.elem liesRV i _ (List.getElem?_eq_getElem hl4)
    cases e6
    exact ⟨_, h7 2 _ (rfl)⟩
  have hfz := World.ownsRow.frozenAt hown5 (i * 3 + 2)
  have hO6 : Only (fun k => k = g4) w4 (w4.setCell ⟨g4, i * 3 + 2, none⟩ (.int .i64 v)) := (Only.refl _ _).setCell _ _ (fun _ => rfl)
  have hsS : (w4.setCell ⟨g4, i * 3 + 2, none⟩ (.int .i64 v)).heap.size = w4.heap.size := by simp
  have hGS : Below (w4.setCell ⟨g4, i * 3 + 2, none⟩ (.int .i64 v)).heap.size (w4.setCell ⟨g4, i * 3 + 2, none⟩ (.int .i64 v)) ((w4.setCell ⟨g4, i * 3 + 2, none⟩ (.int .i64 v)).alloc (.cells #[.slice a4 m.ns.length c4, .slice (some ⟨g4, 0, none⟩) m.vs.length c5] 32)) := (Below.refl _ _).alloc (Nat.le_refl _) _
  have hrV6 := (hset.out _ _ _ _ _ hrV).below liesRV hGS
  have hrN6 := (hrN.only liesRN hO6 (fun k hk => hk.elim) (fun k hk e => hav k hk (by rw [e]; rfl))).below liesRN hGS
  have hat6 : Hid (((w4.setCell ⟨g4, i * 3 + 2, none⟩ (.int .i64 v)).alloc (.cells #[.slice a4 m.ns.length c4, .slice (some ⟨g4, 0, none⟩) m.vs.length c5] 32)).heap[w4.heap.size]? = some (.cells #[.slice a4 m.ns.length c4, .slice (some ⟨g4, 0, none⟩) m.vs.length c5] 32 (0, 0))) := Lib.hid (by
    have := heap_alloc_new (w4.setCell ⟨g4, i * 3 + 2, none⟩ (.int .i64 v)) (.cells #[.slice a4 m.ns.length c4, .slice (some ⟨g4, 0, none⟩) m.vs.length c5] 32 (0, 0))
    rwa [hsS] at this)
  have hs2o := hs2.out
  have hs4o := hs4.out
  have h6 := hO6.heap a4'.out (fun e => by omega)
  have a6 : Hid (((w4.setCell ⟨g4, i * 3 + 2, none⟩ (.int .i64 v)).alloc (.cells #[.slice a4 m.ns.length c4, .slice (some ⟨g4, 0, none⟩) m.vs.length c5] 32)).heap[w.heap.size + 1]? = some (.cells #[.slice none 0 0, .slice none 0 0] 32 (0, 0))) := Lib.hid ((hGS.block _ (block_lt h6)).trans h6)
  have hB6 : Hid (Below w.heap.size w ((w4.setCell ⟨g4, i * 3 + 2, none⟩ (.int .i64 v)).alloc (.cells #[.slice a4 m.ns.length c4, .slice (some ⟨g4, 0, none⟩) m.vs.length c5] 32))) := Lib.hid ((hB4.out.trans (hO6.below (by have := hB4.out.size; omega) (fun k e => by omega))).trans (hGS.mono (by rw [hsS]; exact hB4.out.size)))
  have huM : Tryd.prog.underlying 32 = _ := Tryd.underlying32
  have iM : (Tryd.prog.info? 32).map (·.size) = some (#[.slice a4 m.ns.length c4, .slice (some ⟨g4, 0, none⟩) m.vs.length c5] : Array Value).size := by kernel_rfl
  have h1M : (#[.slice a4 m.ns.length c4, .slice (some ⟨g4, 0, none⟩) m.vs.length c5] : Array Value).all (·.oneCell') = true := by simp [Value.oneCell']
  have hmi : (i : Int) < (m.vs.length : Int) := by omega
  replace hrN6 := Lib.hid hrN6
  replace hrV6 := Lib.hid hrV6
  clear hb4 hnil4 hlt4 hS5 hown5 hO6 hG5 hat5 hs2o hs4o hset hsS hGS h6
  have hwlt := Lib.hid (show w.heap.size + 1 < w4.heap.size from by have := hs2.out; have := hs4.out; omega)
  go_wp2_with (first
    | (refine wpList_load_row rfl 32 (.tmp 8) rfl w4.heap.size #[.slice a4 m.ns.length c4, .slice (some ⟨g4, 0, none⟩) m.vs.length c5] _ rfl hat6 huM rfl iM ?_)
    | (refine wpList_store_row rfl 32 (.tmp 6) (.tmp 42) rfl (w.heap.size + 1) #[.slice none 0 0, .slice none 0 0] #[.slice a4 m.ns.length c4, .slice (some ⟨g4, 0, none⟩) m.vs.length c5] rfl rfl a6 iM rfl h1M ?_; intro w9 hU9))
  refine ret_cell_tmpB (c := #[.slice a4 m.ns.length c4, .slice (some ⟨g4, 0, none⟩) m.vs.length c5]) rfl rfl huM rfl iM hU9.out.here ?_
  have hO9 : Only (fun k => k = w.heap.size + 1) _ w9 := Only.ofUpd hU9.out rfl
  have h2 := hs2.out
  have h4 := hwlt.out
  exact hpost.out _ _ (argM_of (hrN6.out.only liesRN hO9 (fun k hk => hk.elim) (fun k hk e => by have := (hrN6.out.ownLt k hk).1; omega)) (hrV6.out.only liesRV hO9 (fun k hk => hk.elim) (fun k hk e => by have := (hrV6.out.ownLt k hk).1; omega))) (hB6.out.trans (hU9.out.below (by omega)))

set_option maxRecDepth 100000 in
set_option maxHeartbeats 2000000 in
theorem rkept_good (va : Value) (m : Md) (w : World) (ha : ArgM w va m) (l1 : m.ns.length ≤ 1000) (l2 : m.vs.length ≤ 1000) (i : Nat) (hi : i < m.ns.length) (hk : m.ns[i].k = false) :
    Calls Tryd.prog 19 #[va, .int .i64 (i : Int)] w (RKPost ⟨m.ns.set i { m.ns[i] with k := true }, m.vs⟩ 0 w) := by
  have ha0 := ha
  obtain ⟨⟨an, cn, av, cv, rfl, hN, -, -, hV, -, -⟩, okN, okV⟩ := ha
  obtain ⟨b, o, hab, hr⟩ := hN i hi
  have kf : w.cell? ⟨b, o + i * 40 + 39, none⟩ = some (.bool false) := hr 39 _ (by rw [Nm.c39 (okN _ (List.getElem_mem hi)).f, hk])
  subst hab
  have hap := Lib.hid (fun W (hW : Below w.heap.size w W) => show Calls Tryd.prog 34 #[.agg #[.slice (some ⟨b, o, none⟩) m.ns.length cn, .slice av m.vs.length cv]] W (CopiedPost W m) from copied_any _ m W (ha0.below hW (Nat.le_refl _)) l1 l2)
  have hset := Lib.hid (fun (W : World) (base g n c : Nat) (h : RowsOf RN 67 40 base W (fun _ => False) (.slice (some ⟨g, 0, none⟩) n c) m.ns) => rowsN_set h okN i hi true)
  have hpost : Hid (∀ (vm : Value) (W : World), ArgM W vm ⟨m.ns.set i { m.ns[i] with k := true }, m.vs⟩ → Below w.heap.size w W → (RKPost ⟨m.ns.set i { m.ns[i] with k := true }, m.vs⟩ 0 w) (.returned (.tuple #[vm, .int .i64 0])) W) := Lib.hid (fun vm W h1 h2 => ⟨vm, rfl, h1, h2⟩)
  obtain ⟨xs', hxs'⟩ : ∃ xs', xs' = m.ns.set i { m.ns[i] with k := true } := ⟨_, rfl⟩
  rw [← hxs'] at hset hpost ⊢
  have hl' : xs'.length = m.ns.length := by rw [hxs', List.length_set]
  obtain ⟨N, hNl⟩ : ∃ N, N = m.ns.length := ⟨_, rfl⟩
  obtain ⟨V, hVl⟩ : ∃ V, V = m.vs.length := ⟨_, rfl⟩
  obtain ⟨a1, a2, hs2, hB⟩ := boxes2 w #[.slice (some ⟨b, o, none⟩) m.ns.length cn, .slice av m.vs.length cv] #[.slice none 0 0, .slice none 0 0] 32 32 _ rfl
  obtain ⟨w2, hw2⟩ : ∃ w2, w2 = (w.alloc (.cells #[.slice (some ⟨b, o, none⟩) m.ns.length cn, .slice av m.vs.length cv] 32)).alloc (.cells #[.slice none 0 0, .slice none 0 0] 32) := ⟨_, rfl⟩
  rw [← hw2] at a1 a2 hB hs2
  have e10 := cell_of_block a1 0
  have e11 := cell_of_block a1 1
  replace e10 : w2.cell? ⟨w.heap.size, 0, none⟩ = some (.slice (some ⟨b, o, none⟩) m.ns.length cn) := e10
  replace e11 : w2.cell? ⟨w.heap.size, 1, none⟩ = some (.slice av m.vs.length cv) := e11
  have kf2 := (hB.cell (World.block_lt_of_cell? w _ kf)).trans kf
  rw [← hNl, ← hVl] at hap hw2
  rw [← hNl] at e10
  rw [← hVl] at e11
  rw [← hNl, ← hVl]
  rw [← hNl] at hi
  have hii : (i : Int) < (N : Int) := by omega
  have hi0 : ¬ ((i : Int) < 0) := by omega
  clear hk
  rw [hw2] at e10 e11 kf2
  replace hw2 := Lib.hid hw2
  replace hxs' := Lib.hid hxs'
  replace hl' := Lib.hid hl'
  replace hNl := Lib.hid hNl
  replace hVl := Lib.hid hVl
  replace a2 := Lib.hid a2
  replace hB := Lib.hid hB
  replace hs2 := Lib.hid hs2
  clear hN hV ha0 okN okV hr kf a1
  go_enter Tryd.func19, Tryd.ntmps19
  go_wp2_with fail
  rw [← hw2.out]
  with_reducible refine (hap.out w2 hB.out).mono ?_
  clear hap e10 e11 kf2 hw2
  rintro x w4 ⟨v, v', rfl, hrN, hrV, hav, hb4⟩
  obtain ⟨a4, c4, hv4, hnil4, _, _, hlt4⟩ := hrN.form
  obtain ⟨a5, c5, hv5, _⟩ := hrV.form
  subst hv4 hv5
  obtain ⟨g4, hg4⟩ : ∃ g4, a4 = some ⟨g4, 0, none⟩ := by
    cases a4 with
    | none => have := (hnil4 rfl).2; have := hNl.out; omega
    | some ad =>
      obtain ⟨b4, o4, s4⟩ := ad
      obtain ⟨rfl, rfl, _⟩ := hlt4 b4 o4 s4 rfl
      exact ⟨b4, rfl⟩
  subst hg4
  have a4' := Lib.hid ((hb4.block _ (block_lt a2.out)).trans a2.out)
  have hB4 := Lib.hid (hB.out.trans (hb4.mono hB.out.size))
  have hs4 := Lib.hid hb4.size
  have hG5 : Below w4.heap.size w4 (w4.alloc (.cells #[.slice (some ⟨g4, 0, none⟩) m.ns.length c4, .slice a5 m.vs.length c5] 32)) := (Below.refl _ _).alloc (Nat.le_refl _) _
  have hS5 := hrN.below liesRN hG5
  have hg4l := hrN.ownLt g4 rfl
  have hat5 := heap_alloc_new w4 (.cells #[.slice (some ⟨g4, 0, none⟩) m.ns.length c4, .slice a5 m.vs.length c5] 32 (0, 0))
  have hown5 := rowsOf_flat (enc := Nm.list) (fun _ _ _ _ h => h.1) hS5
  have hl4 : i < m.ns.length := by rw [← hNl.out]; exact hi
  obtain ⟨u39, hu39⟩ : ∃ u, (w4.alloc (.cells #[.slice (some ⟨g4, 0, none⟩) m.ns.length c4, .slice a5 m.vs.length c5] 32)).cell? ⟨g4, i * 40 + 39, none⟩ = some u := by
    obtain ⟨g, c', cs, e6, ⟨rfl, hok⟩, h7⟩ := hS5.elem liesRN i _ (List.getElem?_eq_getElem hl4)
    cases e6
    exact ⟨_, h7 39 _ (Nm.c39 hok.f)⟩
  have hfz := World.ownsRow.frozenAt hown5 (i * 40 + 39)
  have hO6 : Only (fun k => k = g4) w4 (w4.setCell ⟨g4, i * 40 + 39, none⟩ (.bool true)) := (Only.refl _ _).setCell _ _ (fun _ => rfl)
  have hsS : (w4.setCell ⟨g4, i * 40 + 39, none⟩ (.bool true)).heap.size = w4.heap.size := by simp
  have hGS : Below (w4.setCell ⟨g4, i * 40 + 39, none⟩ (.bool true)).heap.size (w4.setCell ⟨g4, i * 40 + 39, none⟩ (.bool true)) ((w4.setCell ⟨g4, i * 40 + 39, none⟩ (.bool true)).alloc (.cells #[.slice (some ⟨g4, 0, none⟩) m.ns.length c4, .slice a5 m.vs.length c5] 32)) := (Below.refl _ _).alloc (Nat.le_refl _) _
  have hrN6 := (hset.out _ _ _ _ _ hrN).below liesRN hGS
  have hrV6 := (hrV.only liesRV hO6 (fun k hk => hk.elim) (fun k hk e => hav g4 rfl (e ▸ hk))).below liesRV hGS
  have hat6 : Hid (((w4.setCell ⟨g4, i * 40 + 39, none⟩ (.bool true)).alloc (.cells #[.slice (some ⟨g4, 0, none⟩) m.ns.length c4, .slice a5 m.vs.length c5] 32)).heap[w4.heap.size]? = some (.cells #[.slice (some ⟨g4, 0, none⟩) m.ns.length c4, .slice a5 m.vs.length c5] 32 (0, 0))) := Lib.hid (by
    have := heap_alloc_new (w4.setCell ⟨g4, i * 40 + 39, none⟩ (.bool true)) (.cells #[.slice (some ⟨g4, 0, none⟩) m.ns.length c4, .slice a5 m.vs.length c5] 32 (0, 0))
    rwa [hsS] at this)
  have hs2o := hs2.out
  have hs4o := hs4.out
  have h6 := hO6.heap a4'.out (fun e => by omega)
  have a6 : Hid (((w4.setCell ⟨g4, i * 40 + 39, none⟩ (.bool true)).alloc (.cells #[.slice (some ⟨g4, 0, none⟩) m.ns.length c4, .slice a5 m.vs.length c5] 32)).heap[w.heap.size + 1]? = some (.cells #[.slice none 0 0, .slice none 0 0] 32 (0, 0))) := Lib.hid ((hGS.block _ (block_lt h6)).trans h6)
  have hB6 : Hid (Below w.heap.size w ((w4.setCell ⟨g4, i * 40 + 39, none⟩ (.bool true)).alloc (.cells #[.slice (some ⟨g4, 0, none⟩) m.ns.length c4, .slice a5 m.vs.length c5] 32))) := Lib.hid ((hB4.out.trans (hO6.below (by have := hB4.out.size; omega) (fun k e => by omega))).trans (hGS.mono (by rw [hsS]; exact hB4.out.size)))
  have huM : Tryd.prog.underlying 32 = _ := Tryd.underlying32
  have iM : (Tryd.prog.info? 32).map (·.size) = some (#[.slice (some ⟨g4, 0, none⟩) m.ns.length c4, .slice a5 m.vs.length c5] : Array Value).size := by kernel_rfl
  have h1M : (#[.slice (some ⟨g4, 0, none⟩) m.ns.length c4, .slice a5 m.vs.length c5] : Array Value).all (·.oneCell') = true := by simp [Value.oneCell']
  have hmi : (i : Int) < (m.ns.length : Int) := by omega
  replace hrN6 := Lib.hid hrN6
  replace hrV6 := Lib.hid hrV6
  clear hb4 hnil4 hlt4 hS5 hown5 hO6 hG5 hat5 hs2o hs4o hset hsS hGS h6
  have hwlt := Lib.hid (show w.heap.size + 1 < w4.heap.size from by have := hs2.out; have := hs4.out; omega)
  go_wp2_with (first
    | (refine wpList_load_row rfl 32 (.tmp 6) rfl w4.heap.size #[.slice (some ⟨g4, 0, none⟩) m.ns.length c4, .slice a5 m.vs.length c5] _ rfl hat6 huM rfl iM ?_)
    | (refine wpList_store_row rfl 32 (.tmp 4) (.tmp 31) rfl (w.heap.size + 1) #[.slice none 0 0, .slice none 0 0] #[.slice (some ⟨g4, 0, none⟩) m.ns.length c4, .slice a5 m.vs.length c5] rfl rfl a6 iM rfl h1M ?_; intro w9 hU9))
  refine ret_cell_tmpB (c := #[.slice (some ⟨g4, 0, none⟩) m.ns.length c4, .slice a5 m.vs.length c5]) rfl rfl huM rfl iM hU9.out.here ?_
  have hO9 : Only (fun k => k = w.heap.size + 1) _ w9 := Only.ofUpd hU9.out rfl
  have h2 := hs2.out
  have h4 := hwlt.out
  exact hpost.out _ _ (argM_of (hrN6.out.only liesRN hO9 (fun k hk => hk.elim) (fun k hk e => by have := (hrN6.out.ownLt k hk).1; omega)) (hrV6.out.only liesRV hO9 (fun k hk => hk.elim) (fun k hk e => by have := (hrV6.out.ownLt k hk).1; omega))) (hB6.out.trans (hU9.out.below (by omega)))
end Go.Proofs.YtndgacjfkoliaaaDoor
