/- ledger.State's judged where all is right. Printed by genfolj.py and onrun.sh. -/
import Derived.Test.YtpehdoepcpmnbaaDoorF31ModelOfSaid
import Derived.Test.YtpehdoepcpmnbaaDoorF5ModelOfSaid
namespace Go.Proofs.YtpehdoepcpmnbaaDoor
open Go.RowKit
set_option linter.unusedVariables false

set_option maxRecDepth 100000 in
set_option maxHeartbeats 2000000 in
theorem judged_good (va : Value) (m : St) (x : Rc) (hx : x.Ok) (w : World) (ha : ArgS w va m) (l1 : m.its.length ≤ 1000) (l2 : m.ens.length ≤ 1000) (i : Nat) (hi : i < m.ens.length) (hx1 : x.id = (i : Int)) (h1 : m.ens[i].o = x.obj) (h2 : m.ens[i].v = 0) (ea : Nat → Addr) :
    Calls Tryd.prog 37 #[va, .agg x.list.toArray] w (FolPost ea ⟨m.its, m.ens.set i { m.ens[i] with v := x.verdict, a := x.tick }⟩ 0 w) := by
  have hcf := Lib.hid (Rc.kept0 x hx 59)
  have hcp := fun W (h : Below w.heap.size w W) => copyS_any va m W (ha.below h (Nat.le_refl _)) l1 l2
  have okE := ha.okV
  have hc0 := fun W h => entry_in va m W (ha.below h (Nat.le_refl _)) i hi l2
  rw [← hx1] at hc0
  have hok := ha.okV _ (List.getElem_mem hi)
  have hset1 := fun (W : World) (base g n c : Nat) (h : RowsOf RE 95 7 base W (fun _ => False) (.slice (some ⟨g, 0, none⟩) n c) m.ens) => rowsX_set (R := RE) (enc := En.list) (Ok := En.Ok) (fun _ _ _ _ => Iff.rfl) (fun _ _ => rfl) En.list_one (by decide) h okE i 5 hi (by decide) (.int .i64 x.verdict) rfl { m.ens[i] with v := x.verdict } rfl ⟨hok.1, hok.2.1, hok.2.2.1, hok.2.2.2.1, hok.2.2.2.2.1, hx.verdict, hok.2.2.2.2.2.2⟩
  obtain ⟨E1, hE1⟩ : ∃ l, l = m.ens.set i { m.ens[i] with v := x.verdict } := ⟨_, rfl⟩
  have hE1l : E1.length = m.ens.length := by rw [hE1, List.length_set]
  have hi1 : i < E1.length := by omega
  have hg1 : E1[i] = { m.ens[i] with v := x.verdict } := by simp [hE1]
  have ok1 : ∀ y ∈ E1, y.Ok := fun y hy => by
    rw [hE1] at hy
    rcases List.mem_or_eq_of_mem_set hy with h | h
    · exact okE _ h
    · rw [h]; exact ⟨hok.1, hok.2.1, hok.2.2.1, hok.2.2.2.1, hok.2.2.2.2.1, hx.verdict, hok.2.2.2.2.2.2⟩
  have hset2 := fun (W : World) (base g n c : Nat) (h : RowsOf RE 95 7 base W (fun _ => False) (.slice (some ⟨g, 0, none⟩) n c) E1) => rowsX_set (R := RE) (enc := En.list) (Ok := En.Ok) (fun _ _ _ _ => Iff.rfl) (fun _ _ => rfl) En.list_one (by decide) h ok1 i 6 hi1 (by decide) (.int .i64 x.tick) rfl { m.ens[i] with v := x.verdict, a := x.tick } (by rw [hg1]; rfl) ⟨hok.1, hok.2.1, hok.2.2.1, hok.2.2.2.1, hok.2.2.2.2.1, hx.verdict, hx.tick⟩
  have hE2 : E1.set i { m.ens[i] with v := x.verdict, a := x.tick } = m.ens.set i { m.ens[i] with v := x.verdict, a := x.tick } := by rw [hE1, List.set_set]
  rw [hE2] at hset2
  rw [← hE1] at hset1
  obtain ⟨ENS, hENS⟩ : ∃ l, l = m.ens.set i { m.ens[i] with v := x.verdict, a := x.tick } := ⟨_, rfl⟩
  rw [← hENS] at hset2 ⊢
  have hcl1 : ∀ (W : World) (base g n c : Nat), RowsOf RE 95 7 base W (fun _ => False) (.slice (some ⟨g, 0, none⟩) n c) m.ens → (∃ u, W.cell? ⟨g, i * 7 + 5, none⟩ = some u) ∧ W.frozen? ⟨g, i * 7 + 5, none⟩ = false := fun W base g n c h => by
    have := rowsX_cell (R := RE) (enc := En.list) (Ok := En.Ok) (fun _ _ _ _ => Iff.rfl) liesRE h i 5 hi _ rfl
    exact ⟨⟨_, this.1⟩, this.2⟩
  have hcl2 : ∀ (W : World) (base g n c : Nat), RowsOf RE 95 7 base W (fun _ => False) (.slice (some ⟨g, 0, none⟩) n c) E1 → (∃ u, W.cell? ⟨g, i * 7 + 6, none⟩ = some u) ∧ W.frozen? ⟨g, i * 7 + 6, none⟩ = false := fun W base g n c h => by
    have := rowsX_cell (R := RE) (enc := En.list) (Ok := En.Ok) (fun _ _ _ _ => Iff.rfl) liesRE h i 6 hi1 _ rfl
    exact ⟨⟨_, this.1⟩, this.2⟩
  generalize hy : m.ens[i] = y at *
  obtain ⟨XA, hXA⟩ : ∃ XA, XA = y.list.toArray := ⟨_, rfl⟩
  have hk1 : ∀ (W : World) b, W.heap[b]? = some (.cells XA 95 (0, 0)) → W.cell? ⟨b, 1, none⟩ = some (.int .i64 y.o) ∧ W.cell? ⟨b, 5, none⟩ = some (.int .i64 y.v) := fun W b h => by
    rw [cell_of_block h, cell_of_block h, hXA, List.getElem?_toArray, List.getElem?_toArray]
    exact ⟨rfl, rfl⟩
  have hof : (y.o != x.obj) = false := by rw [h1]; simp
  rw [h2] at hk1
  have iA : (Tryd.prog.info? 95).map (·.size) = some XA.size := by rw [hXA]; kernel_rfl
  have zA : (#[.int .i64 0, .int .i64 0, .int .i64 0, .int .i64 0, .int .i64 0, .int .i64 0, .int .i64 0] : Array Value).size = XA.size := by rw [hXA]; rfl
  have h1A : XA.all (·.oneCell') = true := by rw [hXA]; exact Go.Proofs.YtpehdoepcpmnbaaDoor.all_one (En.list_one _)
  rw [← hXA] at hc0
  obtain ⟨⟨an, cn, av, cv, rfl, hN, hN1, hN2, hV, hV1, hV2⟩, okN, okV⟩ := ha
  obtain ⟨N, hNl⟩ : ∃ N, N = m.its.length := ⟨_, rfl⟩
  obtain ⟨V, hVl⟩ : ∃ V, V = m.ens.length := ⟨_, rfl⟩
  rw [← hNl, ← hVl] at hc0 hcp
  rw [← hNl, ← hVl]
  generalize hRR : x.list.toArray = R at *
  obtain ⟨aS, aR, aO, hs3, hB⟩ := three_boxes w #[.slice an N cn, .slice av V cv] R #[.slice none 0 0, .slice none 0 0] 56 59 56 _ rfl
  obtain ⟨w3, hw3⟩ : ∃ w3, w3 = ((w.alloc (.cells #[.slice an N cn, .slice av V cv] 56)).alloc (.cells R 59)).alloc (.cells #[.slice none 0 0, .slice none 0 0] 56) := ⟨_, rfl⟩
  have s0 := cell_of_block aS 0
  have s1 := cell_of_block aS 1
  obtain ⟨q0, q1, q2, q3, q4, q5, q6, q7⟩ := hcf.out _ _ aR
  rw [← hw3] at aS aR aO hB
  generalize x.obj = vo at *
  generalize x.id = vi at *
  generalize x.way = vw at *
  generalize x.index = vx at *
  generalize x.name = vn at *
  generalize x.verdict = vv at *
  generalize x.tick = vt at *
  generalize y.o = yo at *
  subst hx1
  replace hc0 := Lib.hid hc0
  replace hcp := Lib.hid hcp
  replace aS := Lib.hid aS
  replace aR := Lib.hid aR
  replace aO := Lib.hid aO
  replace hB := Lib.hid hB
  replace hw3 := Lib.hid hw3
  replace hNl := Lib.hid hNl
  replace hVl := Lib.hid hVl
  replace hset1 := Lib.hid hset1
  replace hset2 := Lib.hid hset2
  replace hcl1 := Lib.hid hcl1
  replace hcl2 := Lib.hid hcl2
  replace hk1 := Lib.hid hk1
  replace hE1 := Lib.hid hE1
  replace hE1l := Lib.hid hE1l
  replace hENS := Lib.hid hENS
  replace hy := Lib.hid hy
  clear hRR hN hV hN1 hN2 hV1 hV2 okN okV hs3 hXA h1 h2 hE2 hg1 ok1 okE hi1
  go_enter Tryd.func37, Tryd.ntmps37
  go_wp2_with fail
  rw [← hw3.out]
  with_reducible refine (hc0.out _ hB.out).mono ?_
  rintro e w4 ⟨rfl, hb⟩
  replace aS := Lib.hid ((hb.block _ (block_lt aS.out)).trans aS.out)
  replace aR := Lib.hid ((hb.block _ (block_lt aR.out)).trans aR.out)
  replace aO := Lib.hid ((hb.block _ (block_lt aO.out)).trans aO.out)
  replace hB := Lib.hid (hB.out.trans (hb.mono hB.out.size))
  clear hb s0 s1 q0 q1 q2 q3 q4 q5 q6 q7
  have s0 := cell_of_block aS.out 0
  have s1 := cell_of_block aS.out 1
  obtain ⟨q0, q1, q2, q3, q4, q5, q6, q7⟩ := hcf.out _ _ aR.out
  have hZ4 := Lib.hid (heap_alloc_new w4 (.cells #[.int .i64 0, .int .i64 0, .int .i64 0, .int .i64 0, .int .i64 0, .int .i64 0, .int .i64 0] 95))
  go_wp2_with ((with_reducible show wpList _ _ _ (Oper.mk _ (Op.store 95 (.tmp 6) _) _ _ _ _ :: _) _ _); (refine wpList_store_row rfl 95 (.tmp 6) (.tmp 14) rfl w4.heap.size _ XA rfl rfl hZ4 iA zA h1A ?_); intro w5 hU5; have hb5 : Below w4.heap.size w4 w5 := (Below.alloc (Below.refl w4.heap.size w4) (Nat.le_refl _) _).trans (hU5.out.below (Nat.le_refl _)); have aX := Lib.hid hU5.out.here; replace aS := Lib.hid ((hb5.block _ (block_lt aS.out)).trans aS.out); replace aR := Lib.hid ((hb5.block _ (block_lt aR.out)).trans aR.out); replace aO := Lib.hid ((hb5.block _ (block_lt aO.out)).trans aO.out); replace hB := Lib.hid (hB.out.trans (hb5.mono hB.out.size)); clear s0 s1 q0 q1 q2 q3 q4 q5 q6 q7 hb5; have s0 := cell_of_block aS.out 0; have s1 := cell_of_block aS.out 1; obtain ⟨q0, q1, q2, q3, q4, q5, q6, q7⟩ := hcf.out _ _ aR.out; obtain ⟨y1, y5⟩ := hk1.out _ _ aX.out)
  have hlt5 := Lib.hid (block_lt aO.out)
  with_reducible refine (hcp.out _ hB.out).mono ?_
  rintro e w6 ⟨v, v', rfl, hrN, hrV, hav, hb⟩
  obtain ⟨x4, c4, hv4, _⟩ := hrN.form
  obtain ⟨x5, c5, hv5, hnil5, _, _, hlt5v⟩ := hrV.form
  subst hv4 hv5
  obtain ⟨g5, hg5⟩ : ∃ g5, x5 = some ⟨g5, 0, none⟩ := by
    cases x5 with
    | none => have := (hnil5 rfl).2; omega
    | some ad =>
      obtain ⟨b4, o4, s4⟩ := ad
      obtain ⟨rfl, rfl, _⟩ := hlt5v b4 o4 s4 rfl
      exact ⟨b4, rfl⟩
  subst hg5
  have hltV := Lib.hid (fun k (hk : (Value.slice (some ⟨g5, 0, none⟩) m.ens.length c5).ownBlock = some k) => hrV.ownLt k hk)
  have hltN := Lib.hid (fun k (hk : (Value.slice x4 m.its.length c4).ownBlock = some k) => hrN.ownLt k hk)
  obtain ⟨C, hC⟩ : ∃ C : Array Value, C = #[.slice x4 m.its.length c4, .slice (some ⟨g5, 0, none⟩) m.ens.length c5] := ⟨_, rfl⟩
  rw [← hC]
  have hs56 := hb.size
  have hlo6 : w.heap.size ≤ w5.heap.size := hB.out.size
  replace aS := Lib.hid ((hb.block _ (block_lt aS.out)).trans aS.out)
  replace aR := Lib.hid ((hb.block _ (block_lt aR.out)).trans aR.out)
  replace aO := Lib.hid ((hb.block _ (block_lt aO.out)).trans aO.out)
  replace hB := Lib.hid (hB.out.trans (hb.mono hB.out.size))
  clear hb s0 s1 q0 q1 q2 q3 q4 q5 q6 q7 hnil5 hlt5v y1 y5
  have s0 := cell_of_block aS.out 0
  have s1 := cell_of_block aS.out 1
  obtain ⟨q0, q1, q2, q3, q4, q5, q6, q7⟩ := hcf.out _ _ aR.out
  have hlt6 := Lib.hid (block_lt aO.out)
  have iC : (Tryd.prog.info? 56).map (·.size) = some C.size := by rw [hC]; kernel_rfl
  have zC : (#[.slice none 0 0, .slice none 0 0] : Array Value).size = C.size := by rw [hC]; rfl
  have h1C : C.all (·.oneCell') = true := by rw [hC]; simp [Value.oneCell']
  have hkC : ∀ (W : World) b, W.heap[b]? = some (.cells C 56 (0, 0)) → W.cell? ⟨b, 0, none⟩ = some (.slice x4 m.its.length c4) ∧ W.cell? ⟨b, 1, none⟩ = some (.slice (some ⟨g5, 0, none⟩) m.ens.length c5) := fun W b h => by
    rw [cell_of_block h, cell_of_block h, hC]
    exact ⟨by simp, by simp⟩
  have hZ6 := Lib.hid (heap_alloc_new w6 (.cells #[.slice none 0 0, .slice none 0 0] 56))
  replace hC := Lib.hid hC
  replace hkC := Lib.hid hkC
  replace hrN := Lib.hid hrN
  replace hrV := Lib.hid hrV
  replace hav := Lib.hid hav
  replace hs56 := Lib.hid hs56
  have hg5l := hltV.out g5 rfl
  have hii : (i : Int) < (m.ens.length : Int) := by omega
  have i1i : (Tryd.prog.info? 3).map (·.size) = some 1 := by kernel_rfl
  go_wp2_with ((with_reducible show wpList _ _ _ (Oper.mk _ (Op.store 56 (.tmp 8) _) _ _ _ _ :: _) _ _); (refine wpList_store_row rfl 56 (.tmp 8) (.tmp 35) rfl w6.heap.size _ C rfl rfl hZ6 iC zC h1C ?_); intro w7 hU7; have hb7 : Below w6.heap.size w6 w7 := (Below.alloc (Below.refl w6.heap.size w6) (Nat.le_refl _) _).trans (hU7.out.below (Nat.le_refl _)); have hs7 : w7.heap.size = w6.heap.size + 1 := hU7.out.size.trans (by simp); have aC := Lib.hid hU7.out.here; replace hrN := Lib.hid (hrN.out.below liesRI hb7); replace hrV := Lib.hid (hrV.out.below liesRE hb7); replace aS := Lib.hid ((hb7.block _ (block_lt aS.out)).trans aS.out); replace aR := Lib.hid ((hb7.block _ (block_lt aR.out)).trans aR.out); replace aO := Lib.hid ((hb7.block _ (block_lt aO.out)).trans aO.out); replace hB := Lib.hid (hB.out.trans (hb7.mono hB.out.size)); clear s0 s1 q0 q1 q2 q3 q4 q5 q6 q7 hb7; replace hs7 := Lib.hid hs7)
  have hd0 : Hid (Only (fun k => k = g5) w7 w7.drew) := Lib.hid (Only.refl _ _).drew
  have hl5 := hlt5.out
  have kC : ∀ W, Only (fun k => k = g5) w7 W → W.cell? ⟨w6.heap.size, 1, none⟩ = some (.slice (some ⟨g5, 0, none⟩) m.ens.length c5) := fun W h => (hkC.out W _ (h.heap aC.out (by omega))).2
  have kR : ∀ W, Only (fun k => k = g5) w7 W → W.cell? ⟨w.heap.size + 1, 2, none⟩ = some (.int .i64 (i : Int)) ∧ W.cell? ⟨w.heap.size + 1, 76, none⟩ = some (.int .i64 vv) ∧ W.cell? ⟨w.heap.size + 1, 77, none⟩ = some (.int .i64 vt) := fun W h => by
    obtain ⟨_, _, q2, _, _, _, q6, q7⟩ := hcf.out _ _ (h.heap aR.out (by omega))
    exact ⟨q2, q6, q7⟩
  have kR2 := fun W h => (kR W h).1
  have kR6 := fun W h => (kR W h).2.1
  have kR7 := fun W h => (kR W h).2.2
  clear kR
  replace hrV : Hid (RowsOf RE 95 7 w5.heap.size w7.drew (fun _ => False) (.slice (some ⟨g5, 0, none⟩) m.ens.length c5) m.ens) := Lib.hid (hrV.out.only liesRE (Only.refl (fun _ => False) _).drew (fun k hk => hk.elim) (fun k hk e => e))
  refine wp_region_held_drew (S := (Only (fun k => k = g5) w7)) (by kernel_rfl) hd0.out (fun hOn => ?_)
  generalize World.drew w7 = wd at *
  refine wpAnyH_take (i := 0) (v := ?_) (by simp only [List.getElem?_toArray, List.getElem?_cons_zero]; rfl) (by kernel_rfl) (by kernel_rfl) (by kernel_rfl) (by exact fun _ _ _ h => h) (Or.inl ⟨by rfl, ?_⟩) hOn ?_
  rotate_left
  focus (intro W hSW; go_simp; try with_reducible rfl)
  try simp only [Act.put, List.setIfInBounds_toArray, List.set_cons_zero, List.set_cons_succ]
  refine wpAnyH_take (i := 1) (v := ?_) (by simp only [List.getElem?_toArray, List.getElem?_cons_succ, List.getElem?_cons_zero]; rfl) (by kernel_rfl) (by kernel_rfl) (by kernel_rfl) (by exact fun _ _ _ h => h) (Or.inl ⟨by rfl, ?_⟩) hOn ?_
  rotate_left
  focus (intro W hSW; go_simp; try with_reducible rfl)
  try simp only [Act.put, List.setIfInBounds_toArray, List.set_cons_zero, List.set_cons_succ]
  refine wpAnyH_take (i := 2) (v := ?_) (by simp only [List.getElem?_toArray, List.getElem?_cons_succ, List.getElem?_cons_zero]; rfl) (by kernel_rfl) (by kernel_rfl) (by kernel_rfl) (by exact fun _ _ _ h => h) (Or.inl ⟨by rfl, ?_⟩) hOn ?_
  rotate_left
  focus (intro W hSW; go_simp; try with_reducible rfl)
  try simp only [Act.put, List.setIfInBounds_toArray, List.set_cons_zero, List.set_cons_succ]
  refine wpAnyH_take (i := 3) (v := ?_) (by simp only [List.getElem?_toArray, List.getElem?_cons_succ, List.getElem?_cons_zero]; rfl) (by kernel_rfl) (by kernel_rfl) (by kernel_rfl) (by exact fun _ _ _ h => h) (Or.inl ⟨by rfl, ?_⟩) hOn ?_
  rotate_left
  focus (intro W hSW; go_simp; try with_reducible rfl)
  try simp only [Act.put, List.setIfInBounds_toArray, List.set_cons_zero, List.set_cons_succ]
  refine wpAnyH_take (i := 4) (v := ?_) (by simp only [List.getElem?_toArray, List.getElem?_cons_succ, List.getElem?_cons_zero]; rfl) (by kernel_rfl) (by kernel_rfl) (by kernel_rfl) (by exact fun _ _ _ h => h) (Or.inl ⟨by rfl, ?_⟩) hOn ?_
  rotate_left
  focus (intro W hSW; go_simp; try with_reducible rfl)
  try simp only [Act.put, List.setIfInBounds_toArray, List.set_cons_zero, List.set_cons_succ]
  refine wpAnyH_take (i := 5) (v := ?_) (by simp only [List.getElem?_toArray, List.getElem?_cons_succ, List.getElem?_cons_zero]; rfl) (by kernel_rfl) (by kernel_rfl) (by kernel_rfl) (by exact fun _ _ _ h => h) (Or.inl ⟨by rfl, ?_⟩) hOn ?_
  rotate_left
  focus (intro W hSW; go_simp; try with_reducible rfl)
  try simp only [Act.put, List.setIfInBounds_toArray, List.set_cons_zero, List.set_cons_succ]
  refine wpAnyH_take (i := 6) (v := ?_) (by simp only [List.getElem?_toArray, List.getElem?_cons_succ, List.getElem?_cons_zero]; rfl) (by kernel_rfl) (by kernel_rfl) (by kernel_rfl) (by exact fun _ _ _ h => h) (Or.inl ⟨by rfl, ?_⟩) hOn ?_
  rotate_left
  focus (intro W hSW; go_simp; try with_reducible rfl)
  try simp only [Act.put, List.setIfInBounds_toArray, List.set_cons_zero, List.set_cons_succ]
  refine wpAnyH_take (i := 7) (v := ?_) (by simp only [List.getElem?_toArray, List.getElem?_cons_succ, List.getElem?_cons_zero]; rfl) (by kernel_rfl) (by kernel_rfl) (by kernel_rfl) (by exact fun _ _ _ h => h) (Or.inl ⟨by rfl, ?_⟩) hOn ?_
  rotate_left
  focus (intro W hSW; go_simp; try with_reducible rfl)
  try simp only [Act.put, List.setIfInBounds_toArray, List.set_cons_zero, List.set_cons_succ]
  refine wpAnyH_take (i := 8) (v := ?_) (by simp only [List.getElem?_toArray, List.getElem?_cons_succ, List.getElem?_cons_zero]; rfl) (by kernel_rfl) (by kernel_rfl) (by kernel_rfl) (by exact fun _ _ _ h => h) (Or.inl ⟨by rfl, ?_⟩) hOn ?_
  rotate_left
  focus (intro W hSW; go_simp; try with_reducible rfl)
  try simp only [Act.put, List.setIfInBounds_toArray, List.set_cons_zero, List.set_cons_succ]
  refine wpAnyH_take (i := 9) (v := ?_) (by simp only [List.getElem?_toArray, List.getElem?_cons_succ, List.getElem?_cons_zero]; rfl) (by kernel_rfl) (by kernel_rfl) (by kernel_rfl) (by exact fun _ _ _ h => h) (Or.inl ⟨by rfl, ?_⟩) hOn ?_
  rotate_left
  focus (intro W hSW; go_simp; try with_reducible rfl)
  try simp only [Act.put, List.setIfInBounds_toArray, List.set_cons_zero, List.set_cons_succ]
  refine wpAnyH_take (i := 10) (v := ?_) (by simp only [List.getElem?_toArray, List.getElem?_cons_succ, List.getElem?_cons_zero]; rfl) (by kernel_rfl) (by kernel_rfl) (by kernel_rfl) (by exact fun _ _ _ h => h) (Or.inl ⟨by rfl, ?_⟩) hOn ?_
  rotate_left
  focus (intro W hSW; go_simp; try with_reducible rfl)
  try simp only [Act.put, List.setIfInBounds_toArray, List.set_cons_zero, List.set_cons_succ]
  refine wpAnyH_take (i := 11) (v := ?_) (by simp only [List.getElem?_toArray, List.getElem?_cons_succ, List.getElem?_cons_zero]; rfl) (by kernel_rfl) (by kernel_rfl) (by kernel_rfl) (by exact fun _ _ _ h => h) (Or.inl ⟨by rfl, ?_⟩) hOn ?_
  rotate_left
  focus (intro W hSW; go_simp; try with_reducible rfl)
  try simp only [Act.put, List.setIfInBounds_toArray, List.set_cons_zero, List.set_cons_succ]
  refine wpAnyH_take (i := 12) (v := ?_) (by simp only [List.getElem?_toArray, List.getElem?_cons_succ, List.getElem?_cons_zero]; rfl) (by kernel_rfl) (by kernel_rfl) (by kernel_rfl) (by exact fun _ _ _ h => h) (Or.inl ⟨by rfl, ?_⟩) hOn ?_
  rotate_left
  focus (intro W hSW; go_simp; try with_reducible rfl)
  try simp only [Act.put, List.setIfInBounds_toArray, List.set_cons_zero, List.set_cons_succ]
  refine wpAnyH_take (i := 13) (v := ?_) (by simp only [List.getElem?_toArray, List.getElem?_cons_succ, List.getElem?_cons_zero]; rfl) (by kernel_rfl) (by kernel_rfl) (by kernel_rfl) (by exact fun _ _ _ h => h) (Or.inl ⟨by rfl, ?_⟩) hOn ?_
  rotate_left
  focus (intro W hSW; go_simp; try with_reducible rfl)
  try simp only [Act.put, List.setIfInBounds_toArray, List.set_cons_zero, List.set_cons_succ]
  refine wpAnyH_ready (rs := [14]) (by kernel_rfl) (by simp) ?_
  refine AllReadyH.cons (by simp only [List.getElem?_toArray, List.getElem?_cons_succ, List.getElem?_cons_zero]; rfl) (fun Kz hKz => ?_) AllReadyH.nil
  rw [if_pos (by rfl)]
  (have hcc := hcl1.out _ _ _ _ _ hrV.out)
  (with_reducible refine wp_store_at 3 (.tmp 49) (.tmp 45) rfl g5 (i * 7 + 5) (.int .i64 vv) rfl rfl (Lib.hid hcc.1) hcc.2 i1i one_i64 ?_)
  intro w9 hw9
  (have hr9 := hset1.out _ _ _ _ _ hrV.out)
  rw [← hw9.out] at hr9
  have hO9 : Only (fun k => k = g5) wd w9 := (by rw [hw9.out]; exact (Only.refl _ _).setCell _ _ (fun _ => rfl))
  have hS := hOn.trans hO9 (fun _ _ e => e)
  replace hr9 := Lib.hid hr9
  clear hcc
  refine hKz.out _ _ (by first | exact hS | exact Below.trans hOn (Below.mono hnew (Below.size hOn))) (fun hNext => ?_)
  clear hKz Kz hOn
  have hOn := hNext
  clear hNext
  try clear hnew
  try clear hS
  try simp only [Act.put]
  refine wpAnyH_take (i := 15) (v := ?_) (by simp only [List.getElem?_toArray, List.getElem?_cons_succ, List.getElem?_cons_zero]; rfl) (by kernel_rfl) (by kernel_rfl) (by kernel_rfl) (by exact fun _ _ _ h => h) (Or.inl ⟨by rfl, ?_⟩) hOn ?_
  rotate_left
  focus (intro W hSW; go_simp; try with_reducible rfl)
  try simp only [Act.put, List.setIfInBounds_toArray, List.set_cons_zero, List.set_cons_succ]
  refine wpAnyH_take (i := 16) (v := ?_) (by simp only [List.getElem?_toArray, List.getElem?_cons_succ, List.getElem?_cons_zero]; rfl) (by kernel_rfl) (by kernel_rfl) (by kernel_rfl) (by exact fun _ _ _ h => h) (Or.inl ⟨by rfl, ?_⟩) hOn ?_
  rotate_left
  focus (intro W hSW; go_simp; try with_reducible rfl)
  try simp only [Act.put, List.setIfInBounds_toArray, List.set_cons_zero, List.set_cons_succ]
  refine wpAnyH_ready (rs := [17]) (by kernel_rfl) (by simp) ?_
  refine AllReadyH.cons (by simp only [List.getElem?_toArray, List.getElem?_cons_succ, List.getElem?_cons_zero]; rfl) (fun Kz hKz => ?_) AllReadyH.nil
  rw [if_pos (by rfl)]
  (have hcc := hcl2.out _ _ _ _ _ hr9.out)
  (with_reducible refine wp_store_at 3 (.tmp 51) (.tmp 47) rfl g5 (i * 7 + 6) (.int .i64 vt) rfl rfl (Lib.hid hcc.1) hcc.2 i1i one_i64 ?_)
  intro w10 hw10
  (have hr10 := hset2.out _ _ _ _ _ hr9.out)
  rw [← hw10.out] at hr10
  have hO10 : Only (fun k => k = g5) w9 w10 := (by rw [hw10.out]; exact (Only.refl _ _).setCell _ _ (fun _ => rfl))
  have hS := hOn.trans hO10 (fun _ _ e => e)
  replace hr10 := Lib.hid hr10
  clear hcc
  refine hKz.out _ _ (by first | exact hS | exact Below.trans hOn (Below.mono hnew (Below.size hOn))) (fun hNext => ?_)
  clear hKz Kz hOn
  have hOn := hNext
  clear hNext
  try clear hnew
  try clear hS
  try simp only [Act.put]
  refine wpAnyH_done (by kernel_rfl) ?_ _
  all_goals
    have aC10 := Lib.hid (hOn.heap aC.out (by omega))
    have aO10 := Lib.hid (hOn.heap aO.out (by omega))
    go_wp2_with (first
      | ((with_reducible show wpList _ _ _ (Oper.mk _ (Op.load 56 (.tmp 8)) _ _ _ _ :: _) _ _); refine wpList_load_row rfl 56 (.tmp 8) rfl w6.heap.size C _ rfl aC10 Tryd.underlying56 rfl iC ?_)
      | ((with_reducible show wpList _ _ _ (Oper.mk _ (Op.store 56 (.tmp 4) _) _ _ _ _ :: _) _ _); (refine wpList_store_row rfl 56 (.tmp 4) (.tmp 52) rfl (w.heap.size + 2) _ C rfl rfl aO10 iC zC h1C ?_); intro w11 hU11))
    have h7o := hs7.out
    have h6o := hlt6.out
    have h56 := hs56.out
    have hO11 : Only (fun k => k = w.heap.size + 2) w10 w11 := Only.ofUpd hU11.out rfl
    have hrNX := (hrN.out.only liesRI hOn (fun k hk => hk.elim) (fun k hk e => hav.out k hk (e ▸ rfl))).only liesRI hO11 (fun k hk => hk.elim) (fun k hk e => by have := (hltN.out k hk).1; omega)
    have hrVX := hr10.out.only liesRE hO11 (fun k hk => hk.elim) (fun k hk e => by have := (hltV.out k hk).1; omega)
    have hBX := (hB.out.trans (hOn.below (by have := hB.out.size; omega) (fun k e => by omega))).trans (hU11.out.below (by omega))
    refine ret_cell_tmpB rfl rfl Tryd.underlying56 rfl iC hU11.out.here ?_
    rw [hC.out]
    exact ⟨_, _, rfl, argS_of hrNX hrVX, .inl ⟨rfl, rfl⟩, hBX, freshS_of hrNX hrVX hlo6 hlo6⟩
end Go.Proofs.YtpehdoepcpmnbaaDoor
