/- slices.Insert of one list ahead of a row of the call's own. -/
import Derived.Test.YtfmeheolcibfeaaDoorMacI
import Derived.Deep.Upon
namespace Go.Proofs.YtfmeheolcibfeaaDoor
open Go.RowKit Go.Lib

theorem at_setCells {w : World} {b : Nat} (vs : List Value) (o : Nat) (h : ∀ j, j < vs.length → (w.cell? ⟨b, o + j, none⟩).isSome = true) (j : Nat) (hj : j < vs.length) : (w.setCells b o vs).cell? ⟨b, o + j, none⟩ = vs[j]? := by
  rw [World.cell?_setCells_in b vs o w h j hj, List.getElem?_eq_getElem hj]

set_option maxHeartbeats 1000000 in
theorem insert_zero (base : Nat) (v : Value) (vb : Nat) (x : Value) (w : World) (hown : w.ownsRow base 22 1 v 0 []) (hx : w.heap[vb]? = some (.cells #[x] 22 (0, 0))) (hx1 : x.oneCell' = true) (hb : base ≤ w.heap.size) :
    Calls Tryd.prog 45 #[v, .int .i64 0, .slice (some ⟨vb, 0, none⟩) 1 1] w fun e w' => ∃ g c, e = .returned (.slice (some ⟨g, 0, none⟩) 1 c) ∧ At w' (some ⟨g, 0, none⟩) [x] ∧ 1 ≤ c ∧ c ≤ maxLen ∧ w.grownBy w' v.ownBlock := by
  obtain ⟨i0, hi, hz0, hz1, hz2⟩ := info_parts Tryd.infoSlP
  obtain ⟨a, c, rfl, _, _, hcm, _⟩ := owns_any hown
  have hc63 : c ≤ 9223372036854775807 := by unfold maxLen at hcm; omega
  have hown0 := Lib.hid hown
  have hlen := Lib.hid (show [x].length = 1 from rfl)
  have hsrc := Lib.hid (show At w (some ⟨vb, 0, none⟩) [x] from fun i hi => ⟨vb, 0, rfl, by
    have : i = 0 := by simpa using hi
    subst this
    rw [cell_of_block hx]; rfl⟩)
  have hnil := Lib.hid (show ((some ⟨vb, 0, none⟩ : Option Addr) = none → 1 = 0) from fun e => by cases e)
  have hone := Lib.hid (show ∀ u ∈ [x], u.oneCell' = true from fun u hu => by rw [List.mem_singleton.1 hu]; exact hx1)
  clear hown hx
  simp only [List.length_nil] at hown0 ⊢
  go_enter Tryd.func45, Tryd.ntmps45
  go_wp2_with (at_builtin; go_must (refine wpList_app rfl (.tmp 23) (.tmp 24) 60 rfl base 22 i0 (.slice none 0 0) 24 Tryd.underlying60 hi hz0 hz1 hz2 (by decide) _ 0 [] rfl hown0 _ 1 1 [x] rfl hlen hsrc hnil hone.out (by unfold maxLen; omega) (by omega) hb ?_))
  intro v' w2 hown2 hg2
  go_wp2_with fail
  go_ret
  obtain ⟨a', c', rfl, _, hl', hm', hat', _, hbb⟩ := owns_any hown2.out
  obtain ⟨g, off, rfl, _⟩ := hat' 0 (by simp)
  have hg0 : off = 0 := by
    rcases hown2.out.2 with ⟨e, _⟩ | ⟨g', cap', cur, e, _⟩
    · cases e
    · cases e; rfl
  subst hg0
  exact ⟨g, c', rfl, by simpa using hat', by simpa using hl', hm', hg2.out⟩

set_option maxHeartbeats 4000000 in
set_option maxRecDepth 100000 in
/-- There is room. -/
theorem insert_shift (b n c vb : Nat) (cs : List Value) (x : Value) (w : World) (cur : Array Value) (hn : 0 < n) (hroom : n + 1 ≤ c) (hc63 : c ≤ 9223372036854775807) (hvb : vb ≠ b)
    (hcl : cs.length = n) (hcur : cur.size = c) (hb : w.heap[b]? = some (.cells cur 22 (0, 0))) (hx : w.heap[vb]? = some (.cells #[x] 22 (0, 0)))
    (hcs : ∀ j v, cs[j]? = some v → w.cell? ⟨b, j, none⟩ = some v) (h1c : ∀ v ∈ cs, v.oneCell' = true) (hx1 : x.oneCell' = true) :
    Calls Tryd.prog 45 #[.slice (some ⟨b, 0, none⟩) n c, .int .i64 0, .slice (some ⟨vb, 0, none⟩) 1 1] w fun e w' =>
      e = .returned (.slice (some ⟨b, 0, none⟩) (n + 1) c) ∧ w' = (w.drew.setCells b 1 cs).setCells b 0 [x] := by
  have hvs : ∀ j v, [x][j]? = some v → w.cell? ⟨vb, j, none⟩ = some v := fun j v hj => by
    rw [cell_of_block hx, ← hj]; simp
  have hsp : ∀ j, j < n + 1 → (w.cell? ⟨b, j, none⟩).isSome = true := fun j hj => by
    rw [cell_of_block hb, Array.getElem?_eq_getElem (by omega)]; rfl
  have hfz : ∀ j, j < n + 1 → w.frozen? ⟨b, j, none⟩ = false := fun j _ => free_of_block hb _
  have h1v : ∀ v ∈ [x], v.oneCell' = true := fun u hu => by rw [List.mem_singleton.1 hu]; exact hx1
  have hov : ∀ lb cb, (callFunc 55 #[.slice (some ⟨vb, 0, none⟩) 1 1, .slice (some ⟨b, 1, none⟩) lb cb]).run Tryd.prog w = .ok (.value (.bool false)) w := fun lb cb => overlaps_apart w vb b 1 1 1 lb cb hvb _ _ hx hb (by omega)
  have hsz : (Tryd.prog.info? 22).map (·.size) = some 1 := by kernel_rfl
  have hz2 : ¬ ((n : Int) = 0) := by omega
  have hb2 : ¬ (c = 1) := by omega
  have hb4 : ¬ (c = 0) := by omega
  have mixed : Tryd.prog.follows Departure.mixedOrders = true := by kernel_rfl
  have hw1 : IntKind.i64.wrap 1 = 1 := by rw [IntKind.wrap_i64]; omega
  have hb3 : (1 : Int) ≤ (n : Int) + 1 := by omega
  have hb5 : (0 : Int) ≤ (n : Int) + 1 := by omega
  have hcp1 : ∀ L ty dc sc, L = n → (Builtin.copy_ #[60, 60] ty #[.slice (some ⟨b, 1, none⟩) L dc, .slice (some ⟨b, 0, none⟩) (n + 1) sc]).run Tryd.prog w.drew = .ok (goInt cs.length) (w.drew.setCells b 1 cs) := fun L ty dc sc hL =>
    run_copy_cells w.drew _ _ ty 22 b 1 L dc ⟨b, 0, none⟩ (n + 1) sc cs Tryd.underlying60 hsz (by rw [hcl]; simp only [Nat.min_def]; split <;> omega)
      (fun j v hj => by rw [Addr.add_lit, Nat.zero_add]; exact hcs j v hj)
      (fun j hj => by exact hsp _ (by omega)) (fun j hj => by exact hfz _ (by omega)) h1c
  obtain ⟨W1, hW1⟩ : ∃ W1, W1 = w.drew.setCells b 1 cs := ⟨_, rfl⟩
  have hsp1 : ∀ k, k < n + 1 → (W1.cell? ⟨b, k, none⟩).isSome = true := fun k hk => by
    rw [hW1]
    exact isSome_setCells b _ _ _ (fun j hj => by exact hsp _ (by omega)) _ (hsp k hk)
  have hcp2 : ∀ (W : World), (∀ x, W.cell? x = W1.cell? x) → (∀ x, W.frozen? x = W1.frozen? x) → ∀ ty dc, (Builtin.copy_ #[60, 60] ty #[.slice (some ⟨b, 0, none⟩) (n + 1) dc, .slice (some ⟨vb, 0, none⟩) 1 1]).run Tryd.prog W = .ok (goInt [x].length) (W.setCells b 0 [x]) := fun W hWc hWf ty dc =>
    run_copy_cells W _ _ ty 22 b 0 (n + 1) dc ⟨vb, 0, none⟩ 1 1 [x] Tryd.underlying60 hsz (by simp only [Nat.min_def, List.length_cons, List.length_nil]; split <;> omega)
      (fun j v hj => by
        rw [Addr.add_lit, hWc, hW1, World.cell?_setCells_out b _ _ _ _ (fun h _ => absurd h hvb), Nat.zero_add]
        exact hvs j v hj)
      (fun j hj => by rw [hWc, Nat.zero_add]; exact hsp1 _ (by simp at hj; omega)) (fun j hj => by rw [hWf, hW1, World.frozen?_setCells, Nat.zero_add]; exact hfz _ (by simp at hj; omega)) h1v
  rw [← hW1] at hcp1
  clear hsp hfz hcs hvs hcur hcl hb hx
  go_enter Tryd.func45, Tryd.ntmps45
  go_wp2_with (simp only [hov])
  go_region_law_o (refine step_copy_runI rfl _ _ 60 60 rfl _ _ (by simp [Act.eval, Act.put]) (by simp [Act.eval, Act.put]) (hcp1 _ _ _ _ (by omega)) ?_)
  go_wp2_with (at_builtin; refine wpList_copy_runI _ rfl _ _ 60 60 rfl _ _ rfl rfl (hcp2 _ (fun _ => rfl) (fun _ => rfl) _ _) ?_)
  go_ret
  first | exact ⟨rfl, rfl⟩ | exact ⟨rfl, by rw [hW1]⟩

set_option maxHeartbeats 4000000 in
set_option maxRecDepth 100000 in
/-- There is no room: a new row. -/
theorem insert_grow (b n c vb : Nat) (cs : List Value) (x : Value) (w : World) (hn : 0 < n) (hnc : n ≤ c) (hroom : c < n + 1) (hn6 : n ≤ 1000000)
    (hcl : cs.length = n) (hx : w.heap[vb]? = some (.cells #[x] 22 (0, 0)))
    (hcs : ∀ j v, cs[j]? = some v → w.cell? ⟨b, j, none⟩ = some v) (h1c : ∀ v ∈ cs, v.oneCell' = true) (hx1 : x.oneCell' = true) :
    Calls Tryd.prog 45 #[.slice (some ⟨b, 0, none⟩) n c, .int .i64 0, .slice (some ⟨vb, 0, none⟩) 1 1] w fun e w' => ∃ G,
      e = .returned (.slice (some ⟨w.heap.size, 0, none⟩) (n + 1) G) ∧ n + 1 ≤ G ∧ G ≤ maxLen ∧ At w' (some ⟨w.heap.size, 0, none⟩) (x :: cs) ∧ Below w.heap.size w w' := by
  obtain ⟨i0, hi0, hz0, hzs, hzb⟩ := info_parts Tryd.infoSlP
  have mixed : Tryd.prog.follows Departure.mixedOrders = true := by kernel_rfl
  have hvs : ∀ j v, [x][j]? = some v → w.cell? ⟨vb, j, none⟩ = some v := fun j v hj => by
    rw [cell_of_block hx, ← hj]; simp
  have h1v : ∀ v ∈ [x], v.oneCell' = true := fun u hu => by rw [List.mem_singleton.1 hu]; exact hx1
  have hz2 : ¬ ((n : Int) = 0) := by omega
  have hz3 : (c : Int) < (n : Int) + 1 := by omega
  have hsz : (Tryd.prog.info? 22).map (·.size) = some 1 := by kernel_rfl
  have hbw : b < w.heap.size := block_lt_of_cell (hcs 0 _ (List.getElem?_eq_getElem (by omega)))
  have hvw : vb < w.heap.size := block_lt hx
  have hkk : (n : Int) + 1 = ((n + 1 : Nat) : Int) := by omega
  have hold : (Builtin.firstCells i0.size 0 (.slice (some ⟨b, 0, none⟩) 0 c)).run Tryd.prog w.drew = .ok #[] w.drew := by
    rw [hzs]
    exact run_firstCells_some w.drew 1 0 ⟨b, 0, none⟩ 0 c [] rfl (fun j v hj => by simp at hj)
  have hrz : ∀ ty, (Builtin.append_ #[60, 3] ty #[.slice (some ⟨b, 0, none⟩) 0 c, .int .i64 ((n : Int) + 1)]).run Tryd.prog w =
      .ok (.slice (some ⟨w.heap.size, 0, none⟩) (n + 1) (grownCap w (n + 1) c 22)) (w.drew.alloc (.cells (#[] ++ Builtin.zeroCells (Value.slice none 0 0).cells (n + 1) ++ Builtin.zeroCells (Value.slice none 0 0).cells (grownCap w (n + 1) c 22 - (n + 1))) 22)) := fun ty => by
    have h := Lib.run_append_grow_zeros w 60 3 ty 22 i0 _ .i64 .i64 Tryd.underlying60 Tryd.underlying3 hi0 hz0 (some ⟨b, 0, none⟩) 0 c [] hold (n + 1) (by omega) (by omega) (by omega) (by omega) (by rw [hzb]; omega) (by rw [hzb, Nat.zero_add]; exact growslice_fits hroom (by omega))
    rw [Nat.zero_add] at h
    rw [hkk]
    exact h
  obtain ⟨G, hG⟩ : ∃ G, G = grownCap w (n + 1) c 22 := ⟨_, rfl⟩
  obtain ⟨ROW, hROW⟩ : ∃ ROW : Array Value, ROW = #[] ++ Builtin.zeroCells (Value.slice none 0 0).cells (n + 1) ++ Builtin.zeroCells (Value.slice none 0 0).cells (G - (n + 1)) := ⟨_, rfl⟩
  rw [← hG] at hrz
  rw [← hROW] at hrz
  have hRl : n + 1 ≤ ROW.size := by
    rw [hROW]
    simp [Builtin.zeroCells, Value.cells]
  obtain ⟨W1, hW1⟩ : ∃ W1, W1 = w.drew.alloc (.cells ROW 22) := ⟨_, rfl⟩
  rw [← hW1] at hrz
  have hN : ∀ j, j < n + 1 → (W1.cell? ⟨w.heap.size, j, none⟩).isSome = true := fun j hj => by
    rw [hW1, World.cell?_alloc_at (w := w.drew) ROW _ w.heap.size j rfl, Array.getElem?_eq_getElem (by omega)]; rfl
  have hNf : ∀ j, W1.frozen? ⟨w.heap.size, j, none⟩ = false := fun j => by rw [hW1]; exact World.frozen?_alloc_at (w := w.drew) ROW _ w.heap.size j rfl
  have hOb : ∀ j v, w.cell? ⟨b, j, none⟩ = some v → W1.cell? ⟨b, j, none⟩ = some v := fun j v h => by rw [hW1, World.cell?_alloc_past (w := w.drew) _ b j hbw]; exact h
  have hOv : ∀ j v, w.cell? ⟨vb, j, none⟩ = some v → W1.cell? ⟨vb, j, none⟩ = some v := fun j v h => by rw [hW1, World.cell?_alloc_past (w := w.drew) _ vb j hvw]; exact h
  have hcpA : ∀ (W : World), (∀ x, W.cell? x = W1.cell? x) → (∀ x, W.frozen? x = W1.frozen? x) → ∀ ty dc, (Builtin.copy_ #[60, 60] ty #[.slice (some ⟨w.heap.size, 0, none⟩) (n + 1) dc, .slice (some ⟨vb, 0, none⟩) 1 1]).run Tryd.prog W = .ok (goInt [x].length) (W.setCells w.heap.size 0 [x]) := fun W hWc hWf ty dc =>
    run_copy_cells W _ _ ty 22 w.heap.size 0 (n + 1) dc ⟨vb, 0, none⟩ 1 1 [x] Tryd.underlying60 hsz (by simp only [Nat.min_def, List.length_cons, List.length_nil]; split <;> omega)
      (fun j v hj => by rw [Addr.add_lit, hWc, Nat.zero_add]; exact hOv _ v (hvs j v hj))
      (fun j hj => by rw [hWc, Nat.zero_add]; exact hN _ (by simp at hj; omega)) (fun j hj => by rw [hWf]; exact hNf _) h1v
  have hGn : n + 1 ≤ G := by rw [hG]; exact grownCap_ge w _ _ _
  have hGm : G ≤ maxLen := by
    have := grownCap_le_maxLen w (n + 1) c 22 (by unfold maxLen; omega)
    rw [← hG] at this
    exact this
  have hG63 : G ≤ 9223372036854775807 := by unfold maxLen at hGm; omega
  have hGi : ¬ (G = 0) := by omega
  have hGim : ¬ (G = 1) := by omega
  have hci : ¬ (c = 0) := by omega
  have hbN : b ≠ w.heap.size := by omega
  have hcpB : ∀ (W : World), (∀ y, W.cell? y = (W1.setCells w.heap.size 0 [x]).cell? y) → (∀ y, W.frozen? y = (W1.setCells w.heap.size 0 [x]).frozen? y) → ∀ L ty dc sc, L = n → (Builtin.copy_ #[60, 60] ty #[.slice (some ⟨w.heap.size, 1, none⟩) L dc, .slice (some ⟨b, 0, none⟩) n sc]).run Tryd.prog W = .ok (goInt cs.length) (W.setCells w.heap.size 1 cs) := fun W hWc hWf L ty dc sc hL =>
    run_copy_cells W _ _ ty 22 w.heap.size 1 L dc ⟨b, 0, none⟩ n sc cs Tryd.underlying60 hsz (by rw [hcl]; simp only [Nat.min_def]; split <;> omega)
      (fun j v hj => by
        rw [Addr.add_lit, hWc, World.cell?_setCells_out _ _ _ _ _ (fun h _ => absurd h hbN), Nat.zero_add]
        exact hOb _ v (hcs j v hj))
      (fun j hj => by rw [hWc]; exact isSome_setCells _ _ _ _ (fun t ht => by rw [Nat.zero_add]; exact hN _ (by simp at ht; omega)) _ (hN _ (by omega)))
      (fun j hj => by rw [hWf, World.frozen?_setCells]; exact hNf _) h1c
  have hFin := Lib.hid (show ∀ W : World, (∀ y, W.cell? y = (W1.setCells w.heap.size 0 [x]).cell? y) → At (W.setCells w.heap.size 1 cs) (some ⟨w.heap.size, 0, none⟩) (x :: cs) from fun W hWc i hi => by
    have hsome : ∀ j, j < n + 1 → (W.cell? ⟨w.heap.size, j, none⟩).isSome = true := fun j hj => by
      rw [hWc]; exact isSome_setCells _ _ _ _ (fun t ht => by rw [Nat.zero_add]; exact hN _ (by simp at ht; omega)) _ (hN _ hj)
    refine ⟨w.heap.size, 0, rfl, ?_⟩
    rw [Nat.zero_add]
    cases i with
    | zero =>
      rw [World.cell?_setCells_out _ _ _ _ _ (fun _ _ => Or.inl Nat.zero_lt_one), hWc]
      exact at_setCells [x] 0 (fun t ht => by rw [Nat.zero_add]; exact hN _ (by simp at ht; omega)) 0 (by simp)
    | succ i =>
      rw [Nat.add_comm i 1]
      rw [at_setCells cs 1 (fun t ht => hsome _ (by omega)) i (by simp at hi; omega)]
      rw [Nat.add_comm 1 i]; rfl)
  subst hW1
  have hE1 : ∀ y, ((w.alloc (.cells ROW 22)).drew).cell? y = (w.drew.alloc (.cells ROW 22)).cell? y := fun y => rfl
  have hE2 : ∀ y, ((w.alloc (.cells ROW 22)).drew).frozen? y = (w.drew.alloc (.cells ROW 22)).frozen? y := fun y => rfl
  have hF1 : ∀ y, (((w.alloc (.cells ROW 22)).drew.setCells w.heap.size 0 [x]).drew).cell? y = ((w.drew.alloc (.cells ROW 22)).setCells w.heap.size 0 [x]).cell? y := fun y => rfl
  have hF2 : ∀ y, (((w.alloc (.cells ROW 22)).drew.setCells w.heap.size 0 [x]).drew).frozen? y = ((w.drew.alloc (.cells ROW 22)).setCells w.heap.size 0 [x]).frozen? y := fun y => rfl
  have hw1 : IntKind.i64.wrap 1 = 1 := by rw [IntKind.wrap_i64]; omega
  have hb3 : (1 : Int) ≤ (n : Int) + 1 := by omega
  have hb5 : (0 : Int) ≤ (n : Int) + 1 := by omega
  clear hkk hold hROW hG hRl
  go_enter Tryd.func45, Tryd.ntmps45
  go_wp2_with (first
    | (at_builtin; refine Lib.wpList_append_run _ rfl _ _ _ _ rfl _ _ rfl rfl _ _ (hrz _) ?_)
    | (at_builtin; refine wpList_copy_runI _ rfl _ _ 60 60 rfl _ _ rfl rfl (hcpA _ hE1 hE2 _ _) ?_))
  go_region_law_o (refine step_copy_runI rfl _ _ 60 60 rfl (.slice (some ⟨w.heap.size, 1, none⟩) n (G - 1)) (.slice (some ⟨b, 0, none⟩) n c) (by simp [Act.eval, Act.put]) (by simp [Act.eval, Act.put]) (hcpB _ hF1 hF2 n 3 (G - 1) c rfl) ?_)
  go_wp2
  go_ret
  refine ⟨G, rfl, hGn, hGm, hFin.out _ (fun y => rfl), ?_⟩
  exact below_setCells (Nat.le_refl _) _ _ _ (below_setCells (Nat.le_refl _) _ _ _ ((Below.refl _ w).alloc (Nat.le_refl _) _).drew).drew

theorem grownBy_two {w : World} (g o1 o2 : Nat) (xs ys : List Value) {n c : Nat} : w.grownBy ((w.drew.setCells g o1 xs).setCells g o2 ys) (Value.slice (some ⟨g, 0, none⟩) n c).ownBlock := by
  have h : Below 0 w ((w.drew.setCells g o1 xs).setCells g o2 ys) := below_setCells (Nat.zero_le _) _ _ _ (below_setCells (Nat.zero_le _) _ _ _ (Below.refl _ w).drew)
  refine ⟨h.os, h.tape, h.output, h.size, fun k hk hr => ?_⟩
  have hk' : k ≠ g := fun e => hr (by rw [e]; rfl)
  rw [World.heap_setCells_other _ _ _ _ (by have := (below_setCells (b := g) (Nat.zero_le g) xs o1 w.drew (Below.refl 0 w).drew).size; omega) hk']
  exact World.heap_setCells_other w.drew _ _ _ hk hk'

/-- One list put ahead of a row of the call's own. -/
theorem insert_any (base : Nat) (v : Value) (n : Nat) (vs : List Value) (vb : Nat) (x : Value) (w : World) (hown : w.ownsRow base 22 1 v n vs) (hx : w.heap[vb]? = some (.cells #[x] 22 (0, 0))) (hne : v.ownBlock ≠ some vb) (h1 : ∀ u ∈ vs, u.oneCell' = true) (hx1 : x.oneCell' = true) (hb : base ≤ w.heap.size) (hn : n ≤ 1000000) :
    Calls Tryd.prog 45 #[v, .int .i64 0, .slice (some ⟨vb, 0, none⟩) 1 1] w fun e w' => ∃ g c, e = .returned (.slice (some ⟨g, 0, none⟩) (n + 1) c) ∧ At w' (some ⟨g, 0, none⟩) (x :: vs) ∧ n + 1 ≤ c ∧ c ≤ maxLen ∧ w.grownBy w' v.ownBlock := by
  have hvl : vs.length = n := by simpa using hown.1
  by_cases h0 : n = 0
  · subst h0
    have : vs = [] := List.eq_nil_of_length_eq_zero hvl
    subst this
    exact insert_zero base v vb x w hown hx hx1 hb
  · rcases hown.2 with ⟨_, rfl⟩ | ⟨g, cap, cur, rfl, hg, hrow, hnc, hcm, hcur, htake⟩
    · exact absurd rfl h0
    · have hcs : ∀ j u, vs[j]? = some u → w.cell? ⟨g, j, none⟩ = some u := by
        intro j u hj
        rw [cell_of_block hrow, ← hj, ← htake]
        have hj2 : j < vs.length := (List.getElem?_eq_some_iff.1 hj).1
        rw [List.getElem?_take, if_pos (by omega)]
        simp
      have hcur' : cur.size = cap := by simpa using hcur
      by_cases hr : n + 1 ≤ cap
      · refine (insert_shift g n cap vb vs x w cur (by omega) hr (by unfold maxLen at hcm; omega) (fun e => hne (by rw [e]; rfl)) hvl hcur' hrow hx hcs h1 hx1).mono ?_
        rintro e w' ⟨rfl, rfl⟩
        refine ⟨g, cap, rfl, fun i hi => ⟨g, 0, rfl, ?_⟩, hr, hcm, grownBy_two g 1 0 vs [x]⟩
        have hsome : ∀ j, j < n + 1 → (w.drew.cell? ⟨g, j, none⟩).isSome = true := fun j hj => by
          show (w.cell? ⟨g, j, none⟩).isSome = true
          rw [cell_of_block hrow, Array.getElem?_eq_getElem (by omega)]; rfl
        have hsome2 : ∀ j, j < n + 1 → ((w.drew.setCells g 1 vs).cell? ⟨g, j, none⟩).isSome = true := fun j hj => isSome_setCells g _ _ _ (fun t ht => hsome _ (by omega)) _ (hsome j hj)
        rw [Nat.zero_add]
        cases i with
        | zero => exact at_setCells [x] 0 (fun t ht => hsome2 _ (by simp at ht; omega)) 0 (by simp)
        | succ i =>
          rw [World.cell?_setCells_out _ _ _ _ _ (fun _ _ => Or.inr (by show 0 + [x].length ≤ i + 1; simp)), Nat.add_comm i 1]
          rw [at_setCells vs 1 (fun t ht => hsome _ (by omega)) i (by simp at hi; omega)]
          rw [Nat.add_comm 1 i]; rfl
      · refine (insert_grow g n cap vb vs x w (by omega) hnc (by omega) hn hvl hx hcs h1 hx1).mono ?_
        rintro e w' ⟨G, rfl, hG1, hG2, hat, hbl⟩
        exact ⟨w.heap.size, G, rfl, hat, hG1, hG2, ⟨hbl.os, hbl.tape, hbl.output, hbl.size, fun k hk _ => hbl.block k hk⟩⟩

end Go.Proofs.YtfmeheolcibfeaaDoor
