/- The walks over model.there, Kept, Asked (where they may). -/
import Derived.Test.YtndgacjfkoliaaaDoorF9PlaysSaid34
import Derived.Test.YtndgacjfkoliaaaDoorF17PlaysSaid34
import Derived.Laws.OwnMore
import Derived.RegionTactic
namespace Go.Proofs.YtndgacjfkoliaaaDoor
open Go.RowKit
set_option linter.unusedSimpArgs false
set_option linter.unusedVariables false

section
variable {P : Program} {fn : Func} {R : Ending → World → Prop} {p q r : Tmp} {ty : TypeId}
theorem results_cell_tmp2 (h : fn.results = #[.cell p ty, .tmp q, .tmp r]) (tmps : Array Value) (w : World) :
    (results fn tmps).run P w = ((asAddr (tmps.getD p undef)).run P w).andThen fun a w₁ => ((loadVar ty a).run P w₁).andThen fun v w₂ => .ok (.tuple #[v, tmps.getD q undef, tmps.getD r undef]) w₂ := by
  simp [results, h, Sem.run_bind, Result.andThen]
theorem ret_cell_tmp2 {tmps : Array Value} {W : World} {b : Nat} {c : Array Value} {d : TypeDesc} (h : fn.results = #[.cell p ty, .tmp q, .tmp r])
    (hp : tmps.getD p undef = .pointer (some ⟨b, 0, none⟩)) (hu : P.underlying ty = some d) (hd : (match d with | .struct _ | .array _ _ => true | _ => false) = true) (hi : (P.info? ty).map (·.size) = some c.size) (hh : W.heap[b]? = some (.cells c ty (0, 0))) (hR : R (.returned (.tuple #[.agg c, tmps.getD q undef, tmps.getD r undef])) W) :
    bodyPost P fn R .ret ⟨tmps, []⟩ W := by
  refine bodyPost_ret (v := .tuple #[.agg c, tmps.getD q undef, tmps.getD r undef]) ?_ rfl hR
  rw [results_cell_tmp2 h, hp]
  simp [asAddr, Result.andThen, run_loadVar_row W b ty ty c (0, 0) d hh hu hd hi]
end
theorem flatMap_set {α : Type} {enc : α → List Value} {size : Nat} (u : Value) (x' : α) : ∀ (xs : List α), (∀ x ∈ xs, (enc x).length = size) → ∀ (i r : Nat) (hi : i < xs.length), r < size → enc x' = (enc xs[i]).set r u → (xs.flatMap enc).set (i * size + r) u = (xs.set i x').flatMap enc
  | [], _, i, r, hi, _, _ => absurd hi (Nat.not_lt_zero _)
  | x :: xs, h, i, r, hi, hr, he => by
    have hx := h x (List.mem_cons_self ..)
    cases i with
    | zero =>
      rw [Nat.zero_mul, Nat.zero_add, List.flatMap_cons, List.set_append_left _ _ (by omega), List.set_cons_zero, List.flatMap_cons, he]
      rfl
    | succ i =>
      rw [List.flatMap_cons, List.set_append_right _ _ (by rw [hx, Nat.succ_mul]; omega), List.set_cons_succ, List.flatMap_cons, hx, show (i + 1) * size + r - size = i * size + r by rw [Nat.succ_mul]; omega,
        flatMap_set u x' xs (fun y hy => h y (List.mem_cons_of_mem _ hy)) i r (by simpa using hi) hr he]
theorem rowsOf_flat {α : Type} {enc : α → List Value} {R : World → (Nat → Prop) → α → List Value → Prop} {e : TypeId} {size base : Nat} {w : World} {F : Nat → Prop} {v : Value} {xs : List α} (hR : ∀ w F x cs, R w F x cs → cs = enc x) (h : RowsOf R e size base w F v xs) : w.ownsRow base e size v xs.length (xs.flatMap enc) := by
  obtain ⟨css, h1, h2, h3⟩ := h.row
  have : css = xs.map enc := by
    apply List.ext_getElem (by simp [h1])
    intro i h4 h5
    rw [List.getElem_map]
    exact hR _ _ _ _ (h3 i _ _ (List.getElem?_eq_getElem (by simpa using h5)) (List.getElem?_eq_getElem h4))
  rw [this, ← List.flatMap_def] at h2
  exact h2
theorem Nm.list39 {x : Nm} (h : x.f.length = 32) (b : Bool) : ({ x with k := b } : Nm).list = x.list.set 39 (.bool b) := by
  have := congrArg Array.toList (Nm.set39 h b)
  simpa using this.symm
/-- A name's mark is stored. -/
theorem rowsN_set {e : TypeId} {base g n c : Nat} {w : World} {ns : List Nm} (h : RowsOf RN e 40 base w (fun _ => False) (.slice (some ⟨g, 0, none⟩) n c) ns) (hok : ∀ x ∈ ns, x.Ok) (i : Nat) (hi : i < ns.length) (b : Bool) : RowsOf RN e 40 base (w.setCell ⟨g, i * 40 + 39, none⟩ (.bool b)) (fun _ => False) (.slice (some ⟨g, 0, none⟩) n c) (ns.set i { ns[i] with k := b }) := by
  have h1 := rowsOf_flat (enc := Nm.list) (fun _ _ _ _ h => h.1) h
  have hn : n = ns.length := by
    obtain ⟨a, c', e1, _⟩ := h.form
    cases e1
    rfl
  subst hn
  have h2 := (World.ownsRow.stored h1 (i * 40 + 39) (.bool b)).1
  rw [flatMap_set (.bool b) { ns[i] with k := b } ns (fun x hx => Nm.list_length (hok x hx).f) i 39 hi (by decide) (Nm.list39 (hok _ (List.getElem_mem hi)).f b)] at h2
  refine rowsOf_own (fun x hx => ⟨rfl, ?_⟩) (by rw [List.length_set]; exact h2)
  rcases List.mem_or_eq_of_mem_set hx with hx | hx
  · exact hok x hx
  · have := hok _ (List.getElem_mem hi); rw [hx]; exact ⟨this.s, this.p, this.f⟩
theorem argM_of {base base' : Nat} {w : World} {v v' : Value} {e e' : TypeId} {F F' : Nat → Prop} {ns : List Nm} {vs : List Vd} (h : RowsOf RN e 40 base w F v ns) (h' : RowsOf RV e' 3 base' w F' v' vs) : ArgM w (.agg #[v, v']) ⟨ns, vs⟩ := by
  obtain ⟨a, c, rfl, h1, h2, h3, h4⟩ := rowsN_at h
  obtain ⟨a', c', rfl, h5, h6, h7, h8⟩ := rowsV_at h'
  exact ⟨⟨a, c, a', c', rfl, h1, h2, h3, h5, h6, h7⟩, h4, h8⟩

set_option maxHeartbeats 1000000 in
theorem there_any (va : Value) (m : Md) (w : World) (ha : ArgM w va m) (i : Int) :
    Calls Tryd.prog 25 #[va, .int .i64 i] w fun x w' => x = .returned (.bool (decide (0 ≤ i ∧ i < m.ns.length))) ∧ Below w.heap.size w w' := by
  obtain ⟨⟨an, cn, av, cv, rfl, _⟩, _, _⟩ := ha
  have hG : Below w.heap.size w (w.alloc (.cells #[.slice an m.ns.length cn, .slice av m.vs.length cv] 28)) := (Below.refl _ _).alloc (Nat.le_refl _) _
  replace hG := Lib.hid hG
  generalize m.ns.length = N at *
  by_cases h0 : 0 ≤ i
  · by_cases h1 : i < (N : Int)
    · rw [decide_eq_true ⟨h0, h1⟩]
      go_enter Tryd.func25, Tryd.ntmps25
      go_wp2_with fail
      go_ret
      exact ⟨rfl, hG.out⟩
    · rw [decide_eq_false (fun h => h1 h.2)]
      go_enter Tryd.func25, Tryd.ntmps25
      go_wp2_with fail
      go_ret
      exact ⟨rfl, hG.out⟩
  · rw [decide_eq_false (fun h => h0 h.1)]
    go_enter Tryd.func25, Tryd.ntmps25
    go_wp2_with fail
    go_ret
    exact ⟨rfl, hG.out⟩

/-- What 'Kept' leaves where it may. -/
def KeptPost (w : World) (m : Md) (x : Ending) (w' : World) : Prop := ∃ vm, x = .returned (.tuple #[vm, .nilIface]) ∧ ArgM w' vm m ∧ Below w.heap.size w w'
set_option maxRecDepth 100000 in
set_option maxHeartbeats 1000000 in
theorem kept_good (va : Value) (m : Md) (w : World) (ha : ArgM w va m) (l1 : m.ns.length ≤ 1000) (l2 : m.vs.length ≤ 1000) (i : Nat) (hi : i < m.ns.length) (hk : m.ns[i].k = false) :
    Calls Tryd.prog 15 #[va, .int .i64 (i : Int)] w (KeptPost w ⟨m.ns.set i { m.ns[i] with k := true }, m.vs⟩) := by
  have ha0 := ha
  obtain ⟨⟨an, cn, av, cv, rfl, hN, hN1, hN2, hV, hV1, hV2⟩, okN, okV⟩ := ha
  have hB : Below w.heap.size w ((w.alloc (.cells #[.slice an m.ns.length cn, .slice av m.vs.length cv] 28)).alloc (.cells #[.slice none 0 0, .slice none 0 0] 28)) := ((Below.refl _ _).alloc (Nat.le_refl _) _).alloc (by simp) _
  obtain ⟨w2, hw2⟩ : ∃ w2, w2 = (w.alloc (.cells #[.slice an m.ns.length cn, .slice av m.vs.length cv] 28)).alloc (.cells #[.slice none 0 0, .slice none 0 0] 28) := ⟨_, rfl⟩
  have e10 : w2.cell? ⟨w.heap.size, 0, none⟩ = some (.slice an m.ns.length cn) := by rw [hw2]; exact cellAfter (cell_of_block (heap_alloc_new w _) 0) _
  have e11 : w2.cell? ⟨w.heap.size, 1, none⟩ = some (.slice av m.vs.length cv) := by rw [hw2]; exact cellAfter (cell_of_block (heap_alloc_new w _) 1) _
  have a2 : w2.heap[w.heap.size + 1]? = some (.cells #[.slice none 0 0, .slice none 0 0] 28 (0, 0)) := by
    have h1 := heap_alloc_new (w.alloc (.cells #[.slice an m.ns.length cn, .slice av m.vs.length cv] 28)) (.cells #[.slice none 0 0, .slice none 0 0] 28 (0, 0))
    rw [World.size_alloc] at h1
    rw [hw2]
    exact h1
  rw [← hw2] at hB
  have hs2 : w2.heap.size = w.heap.size + 2 := by rw [hw2]; simp
  obtain ⟨b, o, hab, hr⟩ := hN i hi
  have ok39 : w.cell? ⟨b, o + i * 40 + 39, none⟩ = some (.bool false) := hr 39 _ (by rw [Nm.c39 (okN _ (List.getElem_mem hi)).f, hk])
  subst hab
  have hth : ∀ W, Below w.heap.size w W → Calls Tryd.prog 25 #[.agg #[.slice (some ⟨b, o, none⟩) m.ns.length cn, .slice av m.vs.length cv], .int .i64 (i : Int)] W fun x w' => x = .returned (.bool true) ∧ Below W.heap.size W w' := fun W hW => by
    have := there_any _ m W (ha0.below hW (Nat.le_refl _)) (i : Int)
    rwa [decide_eq_true ⟨by omega, by omega⟩] at this
  have hap : ∀ W, Below w.heap.size w W → Calls Tryd.prog 31 #[.agg #[.slice (some ⟨b, o, none⟩) m.ns.length cn, .slice av m.vs.length cv]] W (ApartPost W m) := fun W hW => apart_any _ m W (ha0.below hW (Nat.le_refl _)) l1 l2
  have hset := fun (W : World) (base g n c : Nat) (h : RowsOf RN 69 40 base W (fun _ => False) (.slice (some ⟨g, 0, none⟩) n c) m.ns) => rowsN_set h okN i hi true
  obtain ⟨ns', hns'⟩ : ∃ ns', ns' = m.ns.set i { m.ns[i] with k := true } := ⟨_, rfl⟩
  rw [← hns'] at hset ⊢
  have hl' : ns'.length = m.ns.length := by rw [hns', List.length_set]
  obtain ⟨N, hNl⟩ : ∃ N, N = m.ns.length := ⟨_, rfl⟩
  obtain ⟨V, hVl⟩ : ∃ V, V = m.vs.length := ⟨_, rfl⟩
  rw [← hNl, ← hVl] at hth hap
  rw [← hNl] at e10 hi hl' l1
  rw [← hVl] at e11
  rw [← hNl, ← hVl]
  rw [← hNl, ← hVl] at hw2
  have hii : (i : Int) < (N : Int) := by omega
  have k39 := (hB.cell (World.block_lt_of_cell? w _ ok39)).trans ok39
  replace hth := Lib.hid hth
  replace hap := Lib.hid hap
  replace hset := Lib.hid hset
  replace hns' := Lib.hid hns'
  replace hl' := Lib.hid hl'
  replace hNl := Lib.hid hNl
  replace hVl := Lib.hid hVl
  replace hw2 := Lib.hid hw2
  replace a2 := Lib.hid a2
  replace hB := Lib.hid hB
  replace hs2 := Lib.hid hs2
  clear hN hV ha0 okN okV hr hk hN1 hN2 hV1 hV2
  go_enter Tryd.func15, Tryd.ntmps15
  go_wp2_with fail
  rw [← hw2.out]
  clear hw2
  with_reducible refine (hth.out w2 hB.out).mono ?_
  clear hth
  rintro x w3 ⟨rfl, hb3⟩
  have g10 := (hb3.cell (World.block_lt_of_cell? w2 _ e10)).trans e10
  have g11 := (hb3.cell (World.block_lt_of_cell? w2 _ e11)).trans e11
  have g39 := (hb3.cell (World.block_lt_of_cell? w2 _ k39)).trans k39
  have a3 := Lib.hid ((hb3.block _ (block_lt a2.out)).trans a2.out)
  have hB3 := Lib.hid (hB.out.trans (hb3.mono hB.out.size))
  have hs3 := Lib.hid hb3.size
  clear hb3 a2 hB e10 e11 k39
  go_wp2_with fail
  with_reducible refine (hap.out w3 hB3.out).mono ?_
  clear hap
  rintro x w4 ⟨v, v', rfl, hrN, hrV, hav, hb4⟩
  obtain ⟨a4, c4, hv4, hnil4, _, _, hlt4⟩ := hrN.form
  obtain ⟨a5, c5, hv5, _⟩ := hrV.form
  subst hv4 hv5
  obtain ⟨g4, hg4⟩ : ∃ g4, a4 = some ⟨g4, 0, none⟩ := by
    cases a4 with
    | none => have := (hnil4 rfl).2; have := hl'.out; have := hNl.out; omega
    | some ad =>
      obtain ⟨b4, o4, s4⟩ := ad
      obtain ⟨rfl, rfl, _⟩ := hlt4 b4 o4 s4 rfl
      exact ⟨b4, rfl⟩
  subst hg4
  have a4 := Lib.hid ((hb4.block _ (block_lt a3.out)).trans a3.out)
  have hB4 := Lib.hid (hB3.out.trans (hb4.mono hB3.out.size))
  have hs4 := Lib.hid hb4.size
  have hG5 : Below w4.heap.size w4 (w4.alloc (.cells #[.slice (some ⟨g4, 0, none⟩) m.ns.length c4, .slice a5 m.vs.length c5] 28)) := (Below.refl _ _).alloc (Nat.le_refl _) _
  have hrN5 := hrN.below liesRN hG5
  have hrV5 := hrV.below liesRV hG5
  have hg4l := hrN.ownLt g4 rfl
  have hat5 := heap_alloc_new w4 (.cells #[.slice (some ⟨g4, 0, none⟩) m.ns.length c4, .slice a5 m.vs.length c5] 28 (0, 0))
  have hown5 := rowsOf_flat (enc := Nm.list) (fun _ _ _ _ h => h.1) hrN5
  have hl4 : i < m.ns.length := by rw [← hNl.out]; exact hi
  obtain ⟨u39, hu39⟩ : ∃ u, (w4.alloc (.cells #[.slice (some ⟨g4, 0, none⟩) m.ns.length c4, .slice a5 m.vs.length c5] 28)).cell? ⟨g4, i * 40 + 39, none⟩ = some u := by
    obtain ⟨g, c', cs, e6, ⟨rfl, hok⟩, h7⟩ := hrN5.elem liesRN i _ (List.getElem?_eq_getElem hl4)
    cases e6
    exact ⟨_, h7 39 _ (Nm.c39 hok.f)⟩
  have hfz := World.ownsRow.frozenAt hown5 (i * 40 + 39)
  have hO6 : Only (fun k => k = g4) w4 (w4.setCell ⟨g4, i * 40 + 39, none⟩ (.bool true)) := (Only.refl _ _).setCell _ _ (fun _ => rfl)
  have hsS : (w4.setCell ⟨g4, i * 40 + 39, none⟩ (.bool true)).heap.size = w4.heap.size := by simp
  have hGS : Below (w4.setCell ⟨g4, i * 40 + 39, none⟩ (.bool true)).heap.size (w4.setCell ⟨g4, i * 40 + 39, none⟩ (.bool true)) ((w4.setCell ⟨g4, i * 40 + 39, none⟩ (.bool true)).alloc (.cells #[.slice (some ⟨g4, 0, none⟩) m.ns.length c4, .slice a5 m.vs.length c5] 28)) := (Below.refl _ _).alloc (Nat.le_refl _) _
  have hrN6 := (hset.out _ _ _ _ _ hrN).below liesRN hGS
  have hrV6 := (hrV.only liesRV hO6 (fun k hk => hk.elim) (fun k hk e => hav g4 rfl (e ▸ hk))).below liesRV hGS
  have hat6 : Hid (((w4.setCell ⟨g4, i * 40 + 39, none⟩ (.bool true)).alloc (.cells #[.slice (some ⟨g4, 0, none⟩) m.ns.length c4, .slice a5 m.vs.length c5] 28)).heap[w4.heap.size]? = some (.cells #[.slice (some ⟨g4, 0, none⟩) m.ns.length c4, .slice a5 m.vs.length c5] 28 (0, 0))) := Lib.hid (by
    have := heap_alloc_new (w4.setCell ⟨g4, i * 40 + 39, none⟩ (.bool true)) (.cells #[.slice (some ⟨g4, 0, none⟩) m.ns.length c4, .slice a5 m.vs.length c5] 28 (0, 0))
    rwa [hsS] at this)
  have hs3o := hs3.out
  have hs2o := hs2.out
  have h6 := hO6.heap a4.out (fun e => by omega)
  have a6 : Hid (((w4.setCell ⟨g4, i * 40 + 39, none⟩ (.bool true)).alloc (.cells #[.slice (some ⟨g4, 0, none⟩) m.ns.length c4, .slice a5 m.vs.length c5] 28)).heap[w.heap.size + 1]? = some (.cells #[.slice none 0 0, .slice none 0 0] 28 (0, 0))) := Lib.hid ((hGS.block _ (block_lt h6)).trans h6)
  have hB6 : Hid (Below w.heap.size w ((w4.setCell ⟨g4, i * 40 + 39, none⟩ (.bool true)).alloc (.cells #[.slice (some ⟨g4, 0, none⟩) m.ns.length c4, .slice a5 m.vs.length c5] 28))) := Lib.hid ((hB4.out.trans (hO6.below (by have := hB4.out.size; omega) (fun k e => by omega))).trans (hGS.mono (by rw [hsS]; exact hB4.out.size)))
  obtain ⟨C, hC⟩ : ∃ C : Array Value, C = #[.slice (some ⟨g4, 0, none⟩) m.ns.length c4, .slice a5 m.vs.length c5] := ⟨_, rfl⟩
  have huM : Tryd.prog.underlying 28 = _ := Tryd.underlying28
  have iM : (Tryd.prog.info? 28).map (·.size) = some (#[.slice (some ⟨g4, 0, none⟩) m.ns.length c4, .slice a5 m.vs.length c5] : Array Value).size := by kernel_rfl
  have h1M : (#[.slice (some ⟨g4, 0, none⟩) m.ns.length c4, .slice a5 m.vs.length c5] : Array Value).all (·.oneCell') = true := by simp [Value.oneCell']
  have hmi : (i : Int) < (m.ns.length : Int) := by omega
  replace hrN6 := Lib.hid hrN6
  replace hrV6 := Lib.hid hrV6
  replace hs4 := Lib.hid hs4.out
  clear hb4 a3 hnil4 hlt4 g10 g11 g39 hrN5 hrV5 hown5 hO6 hG5 hat5 hC hs3o hs2o hset hsS hGS h6
  have hwlt := Lib.hid (show w.heap.size + 1 < w4.heap.size from by have := hs2.out; have := hs3.out; have := hs4.out; omega)
  go_wp2_with (first
    | (refine wpList_load_row rfl 28 (.tmp 6) rfl w4.heap.size #[.slice (some ⟨g4, 0, none⟩) m.ns.length c4, .slice a5 m.vs.length c5] _ rfl hat6 huM rfl iM ?_)
    | (refine wpList_store_row rfl 28 (.tmp 4) (.tmp 30) rfl (w.heap.size + 1) #[.slice none 0 0, .slice none 0 0] #[.slice (some ⟨g4, 0, none⟩) m.ns.length c4, .slice a5 m.vs.length c5] rfl rfl a6 iM rfl h1M ?_; intro w9 hU9))
  refine ret_cell_tmpB (c := #[.slice (some ⟨g4, 0, none⟩) m.ns.length c4, .slice a5 m.vs.length c5]) rfl rfl huM rfl iM hU9.out.here ?_
  have hO9 : Only (fun k => k = w.heap.size + 1) _ w9 := Only.ofUpd hU9.out rfl
  have h3 := hs3.out
  have h2 := hs2.out
  refine ⟨_, rfl, argM_of (hrN6.out.only liesRN hO9 (fun k hk => hk.elim) (fun k hk e => by have := (hrN6.out.ownLt k hk).1; omega)) (hrV6.out.only liesRV hO9 (fun k hk => hk.elim) (fun k hk e => by have := (hrV6.out.ownLt k hk).1; omega)), hB6.out.trans (hU9.out.below (by omega))⟩
end Go.Proofs.YtndgacjfkoliaaaDoor
