/- The walk over model.Asked, where the object is not kept. -/
import Derived.Test.YtndgacjfkoliaaaDoorF27PlaysSaid34
import Derived.Test.YtndgacjfkoliaaaDoorF4PlaysSaid34
import Derived.Deep.CutRange
namespace Go.Proofs.YtndgacjfkoliaaaDoor
open Go.RowKit
set_option linter.unusedVariables false

def AskedErr (w : World) (va : Value) (z : Addr) (x : Ending) (w' : World) : Prop := x = .returned (.tuple #[va, .int .i64 0, .iface 137 (.pointer (some z))]) ∧ Below w.heap.size w w'
set_option maxRecDepth 100000 in
set_option maxHeartbeats 1000000 in
theorem askedM_state (va : Value) (m : Md) (w : World) (ha : ArgM w va m) (l1 : m.ns.length ≤ 1000) (l2 : m.vs.length ≤ 1000) (i : Nat) (hi : i < m.ns.length) (hk : m.ns[i].k = false) (z : Addr) (hz : SentAt 5 w z) :
    Calls Tryd.prog 16 #[va, .int .i64 (i : Int), .int .i64 1] w (AskedErr w va z) := by
  have ha0 := ha
  obtain ⟨⟨an, cn, av, cv, rfl, hN, hN1, hN2, hV, hV1, hV2⟩, okN, okV⟩ := ha
  have hB : Below w.heap.size w ((w.alloc (.cells #[.slice an m.ns.length cn, .slice av m.vs.length cv] 28)).alloc (.cells #[.slice none 0 0, .slice none 0 0] 28)) := ((Below.refl _ _).alloc (Nat.le_refl _) _).alloc (by simp) _
  obtain ⟨w2, hw2⟩ : ∃ w2, w2 = (w.alloc (.cells #[.slice an m.ns.length cn, .slice av m.vs.length cv] 28)).alloc (.cells #[.slice none 0 0, .slice none 0 0] 28) := ⟨_, rfl⟩
  have e10 : w2.cell? ⟨w.heap.size, 0, none⟩ = some (.slice an m.ns.length cn) := by rw [hw2]; exact cellAfter (cell_of_block (heap_alloc_new w _) 0) _
  have e11 : w2.cell? ⟨w.heap.size, 1, none⟩ = some (.slice av m.vs.length cv) := by rw [hw2]; exact cellAfter (cell_of_block (heap_alloc_new w _) 1) _
  have a2 : w2.heap[w.heap.size + 1]? = some (.cells #[.slice none 0 0, .slice none 0 0] 28 (0, 0)) := by
    have h1 := heap_alloc_new (w.alloc (.cells #[.slice an m.ns.length cn, .slice av m.vs.length cv] 28)) (.cells #[.slice none 0 0, .slice none 0 0] 28 (0, 0))
    rw [World.size_alloc] at h1
    rw [hw2]
    exact h1
  have hat2 : w2.heap[w.heap.size]? = some (.cells #[.slice an m.ns.length cn, .slice av m.vs.length cv] 28 (0, 0)) := by rw [hw2]; exact (((Below.refl _ _).alloc (Nat.le_refl _) _).block _ (block_lt (heap_alloc_new w _))).trans (heap_alloc_new w _)
  rw [← hw2] at hB
  have hs2 : w2.heap.size = w.heap.size + 2 := by rw [hw2]; simp
  obtain ⟨b, o, hab, hr⟩ := hN i hi
  have ok39 : w.cell? ⟨b, o + i * 40 + 39, none⟩ = some (.bool false) := hr 39 _ (by rw [Nm.c39 (okN _ (List.getElem_mem hi)).f, hk])
  subst hab
  have hth : ∀ W, Below w.heap.size w W → Calls Tryd.prog 25 #[.agg #[.slice (some ⟨b, o, none⟩) m.ns.length cn, .slice av m.vs.length cv], .int .i64 (i : Int)] W fun x w' => x = .returned (.bool true) ∧ Below W.heap.size W w' := fun W hW => by
    have := there_any _ m W (ha0.below hW (Nat.le_refl _)) (i : Int)
    rwa [decide_eq_true ⟨by omega, by omega⟩] at this
  obtain ⟨N, hNl⟩ : ∃ N, N = m.ns.length := ⟨_, rfl⟩
  obtain ⟨V, hVl⟩ : ∃ V, V = m.vs.length := ⟨_, rfl⟩
  rw [← hNl, ← hVl] at hth
  rw [← hNl, ← hVl] at hat2
  rw [← hNl] at e10 hi l1
  rw [← hVl] at e11 l2
  rw [← hNl, ← hVl]
  rw [← hNl, ← hVl] at hw2
  have hii : (i : Int) < (N : Int) := by omega
  have k39 := (hB.cell (World.block_lt_of_cell? w _ ok39)).trans ok39
  replace hth := Lib.hid hth
  replace hNl := Lib.hid hNl
  replace hVl := Lib.hid hVl
  replace hw2 := Lib.hid hw2
  replace a2 := Lib.hid a2
  replace hat2 := Lib.hid hat2
  replace hB := Lib.hid hB
  replace hs2 := Lib.hid hs2
  clear hN hV ha0 okN okV hr hk hN1 hN2 hV1 hV2
  go_enter Tryd.func16, Tryd.ntmps16
  go_wp2_with fail
  rw [← hw2.out]
  clear hw2
  with_reducible refine (hth.out w2 hB.out).mono ?_
  clear hth
  rintro x w3 ⟨rfl, hb3⟩
  have g10 := (hb3.cell (World.block_lt_of_cell? w2 _ e10)).trans e10
  have g11 := (hb3.cell (World.block_lt_of_cell? w2 _ e11)).trans e11
  have g39 := (hb3.cell (World.block_lt_of_cell? w2 _ k39)).trans k39
  have a3 := Lib.hid ((hb3.block _ (block_lt a2.out)).trans a2.out)
  have hB3 := Lib.hid (hB.out.trans (hb3.mono hB.out.size))
  have hs3 := hb3.size
  have hs2o := hs2.out
  have hz3 := hz.below hB3.out
  have hat1 : w3.heap[w.heap.size]? = some (.cells #[.slice (some ⟨b, o, none⟩) N cn, .slice av V cv] 28 (0, 0)) := (hb3.block _ (by omega)).trans hat2.out
  obtain ⟨CM, hCM⟩ : ∃ CM : Array Value, CM = #[.slice (some ⟨b, o, none⟩) N cn, .slice av V cv] := ⟨_, rfl⟩
  have hat1' : w3.heap[w.heap.size]? = some (.cells CM 28 (0, 0)) := by rw [hCM]; exact hat1
  have hd0 : Hid (Only (fun k => k = w.heap.size + 1) w3 w3.drew) := Lib.hid ((Only.refl _ _).drew)
  have rlA : ∀ W : World, Only (fun k => k = w.heap.size + 1) w3 W → W.heap[w.heap.size]? = some (.cells CM 28 (0, 0)) := fun W hW => hW.heap hat1' (by omega)
  have hzl := World.block_lt_of_cell? w _ hz
  have hcW : ∀ W : World, Only (fun k => k = w.heap.size + 1) w3 W → W.cell? ⟨5, 0, none⟩ = some (.iface 137 (.pointer (some z))) := fun W hW => (World.cell?_of_block (a := ⟨5, 0, none⟩) (hW.block _ (World.block_lt_of_cell? w3 _ hz3) (by simp only at hzl ⊢; omega))).trans hz3
  have huA : Tryd.prog.underlying 28 = _ := Tryd.underlying28
  have hzA : (Tryd.prog.info? 28).map (·.size) = some CM.size := by rw [hCM]; kernel_rfl
  have h1M : CM.all (·.oneCell') = true := by rw [hCM]; simp [Value.oneCell']
  have hss : (#[.slice none 0 0, .slice none 0 0] : Array Value).size = CM.size := by rw [hCM]; rfl
  clear hb3 a2 hB e10 e11 k39 hat1 hat2 hs3 hs2o hz3 hzl
  go_wp2_with fail
  replace a3 : Hid (w3.drew.heap[w.heap.size + 1]? = some (.cells #[.slice none 0 0, .slice none 0 0] 28 (0, 0))) := Lib.hid a3.out
  replace hCM := Lib.hid hCM
  replace hat1' := Lib.hid hat1'
  clear g10 g11 g39
  refine wp_region_held_drew (S := (Only (fun k => k = w.heap.size + 1) w3)) (by kernel_rfl) hd0.out (fun hOn => ?_)
  generalize World.drew w3 = wd at *
  refine wpAnyH_take (i := 0) (v := Value.agg _) (by simp only [List.getElem?_toArray, List.getElem?_cons_zero]; rfl) (by kernel_rfl) (by kernel_rfl) (by kernel_rfl) (by exact fun _ _ _ h => h) (Or.inl ⟨by rfl, fun W hSW => yields_load_row _ _ rfl _ _ _ rfl (rlA W hSW) huA rfl hzA⟩) hOn ?_
  try simp only [Act.put, List.setIfInBounds_toArray, List.set_cons_zero, List.set_cons_succ]
  refine wpAnyH_take (i := 1) (v := ?_) (by simp only [List.getElem?_toArray, List.getElem?_cons_succ, List.getElem?_cons_zero]; rfl) (by kernel_rfl) (by kernel_rfl) (by kernel_rfl) (by exact fun _ _ _ h => h) (Or.inl ⟨by rfl, ?_⟩) hOn ?_
  rotate_left
  focus (intro W hSW; go_simp; try with_reducible rfl)
  try simp only [Act.put, List.setIfInBounds_toArray, List.set_cons_zero, List.set_cons_succ]
  refine wpAnyH_ready (rs := [2]) (by kernel_rfl) (by simp) ?_
  refine AllReadyH.cons (by simp only [List.getElem?_toArray, List.getElem?_cons_succ, List.getElem?_cons_zero]; rfl) (fun Kz hKz => ?_) AllReadyH.nil
  rw [if_pos (by rfl)]
  (with_reducible refine wp_store_rowK 28 (.tmp 6) (.tmp 34) rfl (w.heap.size + 1) #[.slice none 0 0, .slice none 0 0] CM rfl rfl a3 hzA hss h1M ?_)
  intro w9 hU9
  have hS := hOn.trans (Only.ofUpd (D := fun k => k = w.heap.size + 1) hU9.out rfl) (fun _ _ e => e)
  have hres := Lib.hid hU9.out.here
  refine hKz.out _ _ (by first | exact hS | exact Below.trans hOn (Below.mono hnew (Below.size hOn))) (fun hNext => ?_)
  clear hKz Kz hOn
  have hOn := hNext
  clear hNext
  try clear hnew
  try clear hS
  try simp only [Act.put]
  refine wpAnyH_take (i := 3) (v := ?_) (by simp only [List.getElem?_toArray, List.getElem?_cons_succ, List.getElem?_cons_zero]; rfl) (by kernel_rfl) (by kernel_rfl) (by kernel_rfl) (by exact fun _ _ _ h => h) (Or.inl ⟨by rfl, ?_⟩) hOn ?_
  rotate_left
  focus (intro W hSW; go_simp; try with_reducible rfl)
  try simp only [Act.put, List.setIfInBounds_toArray, List.set_cons_zero, List.set_cons_succ]
  refine wpAnyH_take (i := 4) (v := ?_) (by simp only [List.getElem?_toArray, List.getElem?_cons_succ, List.getElem?_cons_zero]; rfl) (by kernel_rfl) (by kernel_rfl) (by kernel_rfl) (by exact fun _ _ _ h => h) (Or.inl ⟨by rfl, ?_⟩) hOn ?_
  rotate_left
  focus (intro W hSW; go_simp; try with_reducible rfl)
  try simp only [Act.put, List.setIfInBounds_toArray, List.set_cons_zero, List.set_cons_succ]
  refine wpAnyH_done (by kernel_rfl) ?_ _
  all_goals
    go_wp2_with fail
    rw [hCM.out] at hres
    refine ret_cell_tmp2 (c := #[.slice (some ⟨b, o, none⟩) N cn, .slice av V cv]) rfl rfl huA rfl (by kernel_rfl) hres.out ?_
    exact ⟨rfl, hB3.out.trans (hOn.below (by have := hB3.out.size; omega) (fun k e => by omega))⟩
end Go.Proofs.YtndgacjfkoliaaaDoor
