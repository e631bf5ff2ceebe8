/- The walks over model.Of, baileelaw21.Of, baileeref34.Of: a state row by row in another type. Printed by genof.py. -/
import Derived.Test.YtpehdoepcpmnbaaDoorF13ModelOfSaid
import Derived.Test.YtpehdoepcpmnbaaDoorBuildG
import Derived.Test.YtpehdoepcpmnbaaDoorF5ModelOfSaid
import Derived.Test.YtpehdoepcpmnbaaDoorF7ModelOfSaid
namespace Go.Proofs.YtpehdoepcpmnbaaDoor
open Go.RowKit
set_option linter.unusedVariables false

/-- Two rows whose slices lie in one struct, so far. -/
structure OfG {α β : Type} (R : World → (Nat → Prop) → α → List Value → Prop) (R' : World → (Nat → Prop) → β → List Value → Prop) (s1 s2 : Nat) (eN eV T : TypeId) (b : Nat) (w wr : World) (v v' : Value) (xs : List α) (ys : List β) : Prop where
  at_ : wr.heap[b]? = some (.cells #[v, v'] T (0, 0))
  rn : RowsOf R eN s1 w.heap.size wr (fun _ => False) v xs
  rv : RowsOf R' eV s2 w.heap.size wr (fun _ => False) v' ys
  ap : ∀ k, v.ownBlock = some k → v'.ownBlock ≠ some k
  only : Only (fun k => k = b) w wr
  lt : b < w.heap.size
section
variable {α β : Type} {R : World → (Nat → Prop) → α → List Value → Prop} {R' : World → (Nat → Prop) → β → List Value → Prop} {s1 s2 : Nat} {eN eV T : TypeId} {b : Nat} {w wr w1 w2 : World} {v v' v1 : Value} {xs : List α} {ys : List β}
theorem OfG.grow (hR : LiesOk R s1) (hR' : LiesOk R' s2) (h : OfG R R' s1 s2 eN eV T b w wr v v' xs ys) (hb : Below wr.heap.size wr w1) : OfG R R' s1 s2 eN eV T b w w1 v v' xs ys :=
  ⟨(hb.block _ (block_lt h.at_)).trans h.at_, h.rn.below hR hb, h.rv.below hR' hb, h.ap, h.only.trans (Only.ofBelow (D := fun k => k = b) hb) (fun _ _ e => e), h.lt⟩
theorem OfG.appN (hR : LiesOk R s1) (hR' : LiesOk R' s2) {x : α} (h : OfG R R' s1 s2 eN eV T b w wr v v' xs ys) (hr : RowsOf R eN s1 w.heap.size w1 (fun _ => False) v1 (xs ++ [x])) (hO : Only (fun k => v.ownBlock = some k) wr w1) (hM : Moved wr v v1) (hU : Upd b (.cells #[v1, v'] T (0, 0)) w1 w2) : OfG R R' s1 s2 eN eV T b w w2 v1 v' (xs ++ [x]) ys := by
  have hl := h.lt
  have hO2 : Only (fun k => k = b) w1 w2 := Only.ofUpd hU rfl
  have hs := h.only.size
  refine ⟨hU.here, hr.only hR hO2 (fun k hk => hk.elim) (fun k hk e => by have := (hr.ownLt k hk).1; omega), (h.rv.only hR' hO (fun k hk => hk.elim) (fun k hk e => h.ap k e hk)).only hR' hO2 (fun k hk => hk.elim) (fun k hk e => by have := (h.rv.ownLt k hk).1; omega), fun k hk hk2 => ?_, (h.only.trans hO (fun k hk e => by have := (h.rn.ownLt k e).1; omega)).trans hO2 (fun _ _ e => e), hl⟩
  rcases hM k hk with h1 | h1
  · exact h.ap k h1 hk2
  · have := (h.rv.ownLt k hk2).2; omega
theorem OfG.appV (hR : LiesOk R s1) (hR' : LiesOk R' s2) {x : β} (h : OfG R R' s1 s2 eN eV T b w wr v v' xs ys) (hr : RowsOf R' eV s2 w.heap.size w1 (fun _ => False) v1 (ys ++ [x])) (hO : Only (fun k => v'.ownBlock = some k) wr w1) (hM : Moved wr v' v1) (hU : Upd b (.cells #[v, v1] T (0, 0)) w1 w2) : OfG R R' s1 s2 eN eV T b w w2 v v1 xs (ys ++ [x]) := by
  have hl := h.lt
  have hO2 : Only (fun k => k = b) w1 w2 := Only.ofUpd hU rfl
  have hs := h.only.size
  refine ⟨hU.here, (h.rn.only hR hO (fun k hk => hk.elim) (fun k hk e => h.ap k hk e)).only hR hO2 (fun k hk => hk.elim) (fun k hk e => by have := (h.rn.ownLt k hk).1; omega), hr.only hR' hO2 (fun k hk => hk.elim) (fun k hk e => by have := (hr.ownLt k hk).1; omega), fun k hk hk2 => ?_, (h.only.trans hO (fun k hk e => by have := (h.rv.ownLt k e).1; omega)).trans hO2 (fun _ _ e => e), hl⟩
  rcases hM k hk2 with h1 | h1
  · exact h.ap k hk h1
  · have := (h.rn.ownLt k hk).2; omega
end
def It.nm (x : It) : Nm := ⟨x.s, x.p, x.file, x.k⟩
def En.vd (x : En) : Vd := ⟨x.o, x.w, x.v⟩
theorem It.nm_ok {x : It} (h : x.Ok) : x.nm.Ok := ⟨h.s, h.p, h.file⟩
def It.vals (x : It) : List Value := [.int .i64 x.n, .string x.s, .agg x.p.list.toArray, .agg (cB x.root).toArray, .agg (cB x.file).toArray, .int .i64 x.t, .bool x.k, .int .i64 x.u, .int .i64 x.r]
theorem It.vals_flat (x : It) : x.vals.flatMap (·.cells.toList) = x.list := by simp [It.vals, Value.cells, It.list]
set_option maxRecDepth 100000 in
theorem build_itR (x : It) (hx : x.Ok) (W : World) : (Instr.build 97 #[(0, .int .i64 x.n), (1, .string x.s), (2, .agg x.p.list.toArray), (3, .agg (cB x.root).toArray), (4, .agg (cB x.file).toArray), (5, .int .i64 x.t), (6, .bool x.k), (7, .int .i64 x.u), (8, .int .i64 x.r)]).run Tryd.prog W = .ok (.agg x.list.toArray) W := by
  refine run_build W _ _ _ ?_
  rw [← It.vals_flat]
  exact built_struct (P := Tryd.prog) (t := 97) (n := 76) (places := [(0, 1), (1, 1), (2, 6), (8, 32), (40, 32), (72, 1), (73, 1), (74, 1), (75, 1)]) (by kernel_rfl) Tryd.underlying97 (by kernel_rfl) x.vals (by simp [placed, It.vals, Value.cells, P6.list_length, cB_length, hx.root, hx.file]) (by simp [It.vals, Value.cells, P6.list_length, cB_length, hx.root, hx.file])

def modelOfPost (w : World) (m : St) (x : Ending) (w' : World) : Prop :=
  ∃ v v', x = .returned (.agg #[v, v']) ∧ RowsOf RN 78 40 w.heap.size w' (fun _ => False) v (m.its.map It.nm) ∧ RowsOf RV 79 3 w.heap.size w' (fun _ => False) v' (m.ens.map En.vd) ∧ Below w.heap.size w w'
set_option maxRecDepth 100000 in
set_option maxHeartbeats 1000000 in
theorem modelOf_any (va : Value) (m : St) (w : World) (ha : ArgS w va m) (l1 : m.its.length ≤ 1000) (l2 : m.ens.length ≤ 1000) :
    Calls Tryd.prog 17 #[va] w (modelOfPost w m) := by
  obtain ⟨⟨an, cn, av, cv, rfl, hN, hN1, hN2, hV, hV1, hV2⟩, okN, okV⟩ := ha
  have huN : Tryd.prog.underlying 93 = _ := Tryd.underlying93
  have huP : Tryd.prog.underlying 42 = _ := Tryd.underlying42
  have huD : Tryd.prog.underlying 57 = _ := Tryd.underlying57
  have hinfoN := Lib.hid infoNmG
  have hinfoV := Lib.hid infoVdG
  obtain ⟨N, hNl⟩ : ∃ N, N = m.its.length := ⟨_, rfl⟩
  obtain ⟨V, hVl⟩ : ∃ V, V = m.ens.length := ⟨_, rfl⟩
  rw [← hNl, ← hVl]
  rw [← hNl] at l1
  rw [← hVl] at l2
  clear hN1 hN2 hV1 hV2
  have hB : Below w.heap.size w ((((w.alloc (.cells #[.slice an N cn, .slice av V cv] 56)).alloc (.cells #[.slice none 0 0, .slice none 0 0] 25))).alloc (.cells #[.slice none 0 0, .slice none 0 0] 25)) := (((Below.refl _ _).alloc (Nat.le_refl _) _).alloc (by simp) _).alloc (by simp; omega) _
  obtain ⟨w2, hw2⟩ : ∃ w2, w2 = (((w.alloc (.cells #[.slice an N cn, .slice av V cv] 56)).alloc (.cells #[.slice none 0 0, .slice none 0 0] 25))).alloc (.cells #[.slice none 0 0, .slice none 0 0] 25) := ⟨_, rfl⟩
  have e10 : w2.cell? ⟨w.heap.size, 0, none⟩ = some (.slice an N cn) := by rw [hw2]; exact cellAfter (cellAfter (cell_of_block (heap_alloc_new w _) 0) _) _
  have e11 : w2.cell? ⟨w.heap.size, 1, none⟩ = some (.slice av V cv) := by rw [hw2]; exact cellAfter (cellAfter (cell_of_block (heap_alloc_new w _) 1) _) _
  have hsz2 : w2.heap.size = w.heap.size + 3 := by rw [hw2]; simp
  have a2 : w2.heap[w.heap.size + 1]? = some (.cells #[.slice none 0 0, .slice none 0 0] 25 (0, 0)) := by
    have h1 := heap_alloc_new (w.alloc (.cells #[.slice an N cn, .slice av V cv] 56)) (.cells #[.slice none 0 0, .slice none 0 0] 25 (0, 0))
    rw [World.size_alloc] at h1
    rw [hw2]
    exact (((Below.refl _ _).alloc (Nat.le_refl _) _).block _ (block_lt h1)).trans h1
  have a3 : w2.heap[w.heap.size + 2]? = some (.cells #[.slice none 0 0, .slice none 0 0] 25 (0, 0)) := by
    have h1 := heap_alloc_new ((w.alloc (.cells #[.slice an N cn, .slice av V cv] 56)).alloc (.cells #[.slice none 0 0, .slice none 0 0] 25)) (.cells #[.slice none 0 0, .slice none 0 0] 25 (0, 0))
    rw [World.size_alloc, World.size_alloc] at h1
    rw [hw2]
    exact h1
  rw [← hw2] at hB
  have hst0 : OfG RN RV 40 3 78 79 25 (w.heap.size + 2) w2 w2 (.slice none 0 0) (.slice none 0 0) [] [] :=
    ⟨a3, RowsOf.nil _ _, RowsOf.nil _ _, (fun k e => by cases e), Only.refl _ _, by omega⟩
  have hNw := Lib.hid hN
  have hVw := Lib.hid hV
  clear hN hV
  obtain ⟨n0, hn0⟩ : ∃ n0, n0 = w.heap.size := ⟨_, rfl⟩
  obtain ⟨ML, hML⟩ : ∃ ML, ML = (m.its.map It.nm) := ⟨_, rfl⟩
  obtain ⟨ME, hME⟩ : ∃ ME, ME = (m.ens.map En.vd) := ⟨_, rfl⟩
  have hMLl : ML.length = N := by rw [hML, hNl]; simp
  have hMEl : ME.length = V := by rw [hME, hVl]; simp
  have hpost : Hid (∀ v v' w', RowsOf RN 78 40 w.heap.size w' (fun _ => False) v ML → RowsOf RV 79 3 w.heap.size w' (fun _ => False) v' ME → Below w.heap.size w w' → modelOfPost w m (.returned (.agg #[v, v'])) w') := Lib.hid (fun v v' w' a b c => ⟨v, v', rfl, by rw [← hML]; exact a, by rw [← hME]; exact b, c⟩)
  replace hML := Lib.hid hML
  replace hME := Lib.hid hME
  replace hMLl := Lib.hid hMLl
  replace hMEl := Lib.hid hMEl
  replace hw2 := Lib.hid hw2
  replace okN := Lib.hid okN
  replace okV := Lib.hid okV
  replace hNl := Lib.hid hNl
  replace hVl := Lib.hid hVl
  replace hst0 := Lib.hid hst0
  replace a2 := Lib.hid a2
  replace hB := Lib.hid hB
  clear a3
  go_enter Tryd.func17, Tryd.ntmps17
  go_wp2_with fail
  rw [← hw2.out]
  rw [← hn0] at e10 e11 a2 hst0 hsz2 ⊢
  replace hn0 := Lib.hid hn0
  clear hw2
  have hbw : ∀ wr, Only (fun k => k = n0 + 2) w2 wr → (∀ x, x.block < w2.heap.size → x.block ≠ n0 + 2 → wr.cell? x = w2.cell? x) ∧ Below n0 w2 wr := fun wr hO => ⟨fun x hx hne => World.cell?_of_block (a := x) (hO.block _ hx hne), hO.below (by omega) (fun k e => by omega)⟩
  replace hbw := Lib.hid hbw
  refine wp_loopF [(false, 5), (true, 1), (false, 5), (true, 19), (false, 21)] _ [] (fun U wr => ∃ k : Nat, k ≤ N ∧ U 11 = .int .i64 (k : Nat) ∧ ∃ v, OfG RN RV 40 3 78 79 25 (n0 + 2) w2 wr v (.slice none 0 0) (ML.take k) []) (fun U _ => N - (intOf (U 11)).toNat) ?_ ?_
  · simp only [List.getD_cons_zero, List.getD_cons_succ]
    exact ⟨0, Nat.zero_le _, rfl, _, hst0.out⟩
  · clear hst0
    intro U wr hrel KK hback l' hl'
    obtain ⟨k, hk, h12, v, hst⟩ := hrel
    simp only [fillS, popSeg, cond_true, cond_false, Nat.reduceAdd, h12] at hl'
    subst hl'
    replace h12 := Lib.hid h12
    by_cases hlt : k < N
    · have hlt2 : (k : Int) < (N : Int) := by omega
      have hkN : k < m.its.length := by rw [← hNl.out]; exact hlt
      have hrr : RowAt It.list 76 wr an m.its := fun j hj => by
        obtain ⟨b, o, e, h⟩ := hNw.out j hj
        exact ⟨b, o, e, rangeAt_below h (B := n0) ((show Below n0 w w2 by rw [hn0.out]; exact hB.out).trans (hbw.out wr hst.only).2) (by rw [hn0.out]; exact Nat.le_refl _)⟩
      obtain ⟨b1, o1, rfl, hr1⟩ := hrr k hkN
      have ox := okN.out _ (List.getElem_mem hkN)
      have hkM : k < ML.length := by rw [hMLl.out]; exact hlt
      have hge : ML[k] = m.its[k].nm := by simp [hML.out]
      have htk : ML.take (k + 1) = ML.take k ++ [m.its[k].nm] := by rw [List.take_succ_eq_append_getElem hkM, hge]
      clear hge
      generalize m.its[k] = x at *
      obtain ⟨X, hX⟩ : ∃ X, X = x.list.toArray := ⟨_, rfl⟩
      have hX1 : X.all (·.oneCell') = true := by rw [hX]; exact x.all_one
      have iX : (Tryd.prog.info? 93).map (·.size) = some X.size := by rw [hX, It.size ox]; kernel_rfl
      have zX : (Tryd.zeroCells93).size = X.size := by rw [hX, It.size ox]; kernel_rfl
      have ix : (Tryd.prog.info? 93).map (·.size) = some x.list.length := by rw [It.list_length ox]; kernel_rfl
      have iP : (Tryd.prog.info? 42).map (·.size) = some x.p.list.length := by kernel_rfl
      have iD : (Tryd.prog.info? 57).map (·.size) = some (cB x.file).length := by rw [cB_length, ox.file]; kernel_rfl
      have iD2 : (Tryd.prog.info? 57).map (·.size) = some (cB x.root).length := by rw [cB_length, ox.root]; kernel_rfl
      have hbd := fun W => build_nmG x.nm ox.file W
      obtain ⟨Y, hY⟩ : ∃ Y, Y = (x.nm).list.toArray := ⟨_, rfl⟩
      have hYs : Y.size = 40 := by rw [hY]; exact Nm.size (x := x.nm) ox.file
      have hyY := fun W => (show RN W (fun _ => False) (x.nm) Y.toList from ⟨by rw [hY], It.nm_ok ox⟩)
      simp only [It.nm] at hbd hY
      obtain ⟨S, hS⟩ : ∃ S, S = x.s := ⟨_, rfl⟩
      obtain ⟨B, hBk⟩ : ∃ B, B = x.k := ⟨_, rfl⟩
      obtain ⟨PP, hPP⟩ : ∃ PP, PP = x.p.list.toArray := ⟨_, rfl⟩
      obtain ⟨DD, hDD⟩ : ∃ DD, DD = (cB x.file).toArray := ⟨_, rfl⟩
      obtain ⟨RR, hRR⟩ : ∃ RR, RR = (cB x.root).toArray := ⟨_, rfl⟩
      obtain ⟨NO, hNO⟩ : ∃ NO, NO = x.n := ⟨_, rfl⟩
      obtain ⟨TT, hTT⟩ : ∃ TT, TT = x.t := ⟨_, rfl⟩
      obtain ⟨UU, hUU⟩ : ∃ UU, UU = x.u := ⟨_, rfl⟩
      obtain ⟨QQ, hQQ⟩ : ∃ QQ, QQ = x.r := ⟨_, rfl⟩
      rw [← hS, ← hBk, ← hPP, ← hDD] at hbd
      rw [← hS, ← hBk] at hY
      rw [← hY] at hbd
      have hsl := fun W => slice_one (P := Tryd.prog) (t := 22) Tryd.underlying22 infoNmG (by decide) (by decide) Y hYs W
      have hcX : ∀ (W : World) b, W.heap[b]? = some (.cells X 93 (0, 0)) → W.cell? ⟨b, 0, none⟩ = some (.int .i64 NO) ∧ W.cell? ⟨b, 1, none⟩ = some (.string S) ∧ W.cell? ⟨b, 72, none⟩ = some (.int .i64 TT) ∧ W.cell? ⟨b, 73, none⟩ = some (.bool B) ∧ W.cell? ⟨b, 74, none⟩ = some (.int .i64 UU) ∧ W.cell? ⟨b, 75, none⟩ = some (.int .i64 QQ) ∧ W.rangeAt b 2 x.p.list ∧ W.rangeAt b 8 (cB x.root) ∧ W.rangeAt b 40 (cB x.file) := fun W b h => by
        rw [cell_of_block h, cell_of_block h, cell_of_block h, cell_of_block h, cell_of_block h, cell_of_block h, hX]
        simp only [List.getElem?_toArray]
        rw [hNO, hS, hTT, hBk, hUU, hQQ]
        exact ⟨It.c0 x, It.c1 x, It.c72 ox, It.c73 ox, It.c74 ox, It.c75 ox, rangeAt_sub h (by rw [hX]; exact It.sub_p x), rangeAt_sub h (by rw [hX]; exact It.sub_root ox), rangeAt_sub h (by rw [hX]; exact It.sub_file ox)⟩
      have hz1 : Hid ((wr.alloc (.cells Tryd.zeroCells93 93)).heap[wr.heap.size]? = some (.cells Tryd.zeroCells93 93 (0, 0))) := heap_alloc_new wr (.cells Tryd.zeroCells93 93 (0, 0))
      have hln : (ML.take k).length ≤ 1000000 := by rw [List.length_take]; omega
      have hswr := hst.only.size
      replace hst := Lib.hid hst
      replace htk := Lib.hid htk
      replace hX := Lib.hid hX
      replace hPP := Lib.hid hPP
      replace hDD := Lib.hid hDD
      replace hRR := Lib.hid hRR
      replace hcX := Lib.hid hcX
      replace hr1 := Lib.hid hr1
      replace hbd := Lib.hid hbd
      replace hsl := Lib.hid hsl
      replace hln := Lib.hid hln
      replace ox := Lib.hid ox
      replace hyY := Lib.hid hyY
      clear hS hBk hNO hTT hUU hQQ hY hrr
      go_wp2_with (first
        | ((with_reducible show wpList _ _ _ (Oper.mk _ (Op.load 93 (.tmp 13)) _ _ _ _ :: _) _ _); (refine wpList_load_mid rfl 93 (.tmp 13) rfl b1 (o1 + k * 76) rfl x.list _ hr1.out huN rfl ix ?_); rw [← hX.out])
        | ((with_reducible show wpList _ _ _ (Oper.mk _ (Op.store 93 (.tmp 5) _) _ _ _ _ :: _) _ _); (refine wpList_store_row rfl 93 (.tmp 5) (.tmp 14) rfl wr.heap.size _ X rfl rfl hz1 iX zX hX1 ?_); intro w3 hU3; have hb3 := Lib.hid (((Below.refl wr.heap.size wr).alloc (Nat.le_refl _) _).trans (hU3.out.below (Nat.le_refl _))); have hst3 := Lib.hid (hst.out.grow liesRN liesRV hb3.out); have c30 := cell_of_block hst3.out.at_ 0; obtain ⟨k0, k1, k72, k73, k74, k75, rP, rR, rD⟩ := hcX.out _ _ hU3.out.here; replace rP := Lib.hid rP; replace rR := Lib.hid rR; replace rD := Lib.hid rD; have hrow := Lib.hid hst3.out.rn; have hyN := Lib.hid (hyY.out w3); have hF0 := Lib.hid (show ∀ k : Nat, (fun _ : Nat => False) k → (fun _ : Nat => False) k from fun _ h => h); have hA0 := Lib.hid (show ∀ k, v.ownBlock = some k → ¬ (fun _ : Nat => False) k from fun _ _ h => h); have hL0 := Lib.hid (show ∀ k, (fun _ : Nat => False) k → k < w3.heap.size from fun _ h => h.elim); have hbs3 : w2.heap.size ≤ w3.heap.size := (by have := hb3.out.size; omega))
        | ((with_reducible show wpList _ _ _ (Oper.mk _ (Op.load 42 (.tmp 19)) _ _ _ _ :: _) _ _); (refine wpList_load_mid rfl 42 (.tmp 19) rfl wr.heap.size 2 rfl x.p.list _ rP.out huP rfl iP ?_); rw [← hPP.out])
        | ((with_reducible show wpList _ _ _ (Oper.mk _ (Op.load 57 (.tmp 21)) _ _ _ _ :: _) _ _); (refine wpList_load_mid rfl 57 (.tmp 21) rfl wr.heap.size 40 rfl (cB x.file) _ rD.out huD rfl iD ?_); rw [← hDD.out])
        | ((with_reducible show wpList _ _ _ (Oper.mk _ (Op.build 78 _) _ _ _ _ :: _) _ _); refine wpList_buildV rfl 78 [(0, .tmp 18), (1, .tmp 20), (2, .tmp 22), (3, .tmp 24)] rfl [(0, .string S), (1, .agg PP), (2, .agg DD), (3, .bool B)] rfl _ (hbd.out _) ?_)
        | ((with_reducible show wpList _ _ _ (Oper.mk _ (Op.buildSlice _ _ _) _ _ _ _ :: _) _ _); refine wpList_buildS rfl 22 1 [(0, .tmp 25)] rfl [(0, .agg Y)] rfl _ _ (hsl.out _) ?_)
        | (at_builtin; refine wpList_appRows (P := Tryd.prog) (R := RN) (e := 78) (size := 40) (base := w2.heap.size) (F := fun _ => False) (F' := fun _ => False) rfl liesRN (.tmp 16) (.tmp 26) 22 rfl Tryd.underlying22 104 hinfoN.out (by decide) rfl hrow (x.nm) Y hyN hF0 hA0 hL0 rfl hln.out (by decide) hbs3 ?_; intro v5 w5 hr5 hO5 hM5; obtain ⟨a5, n5, c5, hv5⟩ : ∃ a n c, v5 = .slice a n c := (by obtain ⟨a, c, e, _⟩ := hr5.out.form; exact ⟨a, _, c, e⟩); subst hv5; have h5 := hO5.out.heap hst3.out.at_ (fun e => by have := (hst3.out.rn.ownLt _ e).1; omega); have c35 := cell_of_block h5 0; have f35 := free_of_block h5 0; have hU6 := Lib.hid ((Upd.refl h5).setCell (j := 0) (.slice a5 n5 c5)); have hst6 := Lib.hid (hst3.out.appN liesRN liesRV hr5.out hO5.out hM5.out hU6.out); replace h5 := Lib.hid h5))
      refine hback.out _ _ (by kernel_rfl) ?_ ?_
      · simp only [List.getD_cons_zero, List.getD_cons_succ]
        exact ⟨k + 1, by omega, by go_num, .slice a5 n5 c5, by rw [htk.out]; exact hst6.out⟩
      · have h12 := h12.out
        simp only [List.getD_cons_zero, List.getD_cons_succ, h12, intOf]
        omega
    · obtain rfl : k = N := by omega
      rw [show ML.take k = ML from List.take_of_length_le (by rw [hMLl.out]; exact Nat.le_refl _)] at hst
      have hrr : RowAt En.list 7 wr av m.ens := fun j hj => by
        obtain ⟨b, o, e, h⟩ := hVw.out j hj
        exact ⟨b, o, e, rangeAt_below h (B := n0) ((show Below n0 w w2 by rw [hn0.out]; exact hB.out).trans (hbw.out wr hst.only).2) (by rw [hn0.out]; exact Nat.le_refl _)⟩
      have e11r := ((hbw.out wr hst.only).1 ⟨n0, 1, none⟩ (World.block_lt_of_cell? w2 _ e11) (by simp)).trans e11
      have a2r := (hst.only.block _ (block_lt a2.out) (by omega)).trans a2.out
      have hswr := hst.only.size
      replace hst := Lib.hid hst
      replace a2r := Lib.hid a2r
      go_wp2_with fail
      refine wp_loopF [(false, 7), (true, 1), (false, 25), (true, 17), (false, 1)] _ [] (fun U2 w5 => ∃ j : Nat, j ≤ V ∧ U2 33 = .int .i64 (j : Nat) ∧ ∃ v', OfG RN RV 40 3 78 79 25 (n0 + 2) w2 w5 v v' ML (ME.take j)) (fun U2 _ => V - (intOf (U2 33)).toNat) ?_ ?_
      · simp only [List.getD_cons_zero, List.getD_cons_succ]
        exact ⟨0, Nat.zero_le _, rfl, _, hst.out⟩
      · clear hrr hst hback a2r e11r
        intro U2 w5 hrel KK2 hback2 l2 hl2
        obtain ⟨j, hj, h34, v', hst⟩ := hrel
        simp only [fillS, popSeg, cond_true, cond_false, Nat.reduceAdd, h34] at hl2
        subst hl2
        replace h34 := Lib.hid h34
        by_cases hlt2 : j < V
        · have hlt3 : (j : Int) < (V : Int) := by omega
          have hkV : j < m.ens.length := by rw [← hVl.out]; exact hlt2
          have hrr : RowAt En.list 7 w5 av m.ens := fun j hj => by
            obtain ⟨b, o, e, h⟩ := hVw.out j hj
            exact ⟨b, o, e, rangeAt_below h (B := n0) ((show Below n0 w w2 by rw [hn0.out]; exact hB.out).trans (hbw.out w5 hst.only).2) (by rw [hn0.out]; exact Nat.le_refl _)⟩
          obtain ⟨b1, o1, rfl, hr1⟩ := hrr j hkV
          have ox := okV.out _ (List.getElem_mem hkV)
          have hkE : j < ME.length := by rw [hMEl.out]; exact hlt2
          have hge : ME[j] = m.ens[j].vd := by simp [hME.out]
          have htk : ME.take (j + 1) = ME.take j ++ [m.ens[j].vd] := by rw [List.take_succ_eq_append_getElem hkE, hge]
          clear hge
          generalize m.ens[j] = x at *
          obtain ⟨xid, xo, xw, xi, xt, xv, xa⟩ := x
          simp only [En.vd] at htk
          have d0 := hr1 0 _ rfl
          have d1 := hr1 1 _ rfl
          have d2 := hr1 2 _ rfl
          have d3 := hr1 3 _ rfl
          have d4 := hr1 4 _ rfl
          have d5 := hr1 5 _ rfl
          have d6 := hr1 6 _ rfl
          simp only [Nat.add_zero] at d0 d1 d2 d3 d4 d5 d6
          have hln : (ME.take j).length ≤ 1000000 := by rw [List.length_take]; omega
          have hsw5 := hst.only.size
          have hsl := fun W => slice_one (P := Tryd.prog) (t := 23) Tryd.underlying23 infoVdG (by decide) (by decide) #[.int .i64 xo, .int .i64 xw, .int .i64 xv] rfl W
          have hb6 : Below w5.heap.size w5 (w5.alloc (.cells #[.int .i64 xid, .int .i64 xo, .int .i64 xw, .int .i64 xi, .int .i64 xt, .int .i64 xv, .int .i64 xa] 95)) := (Below.refl _ _).alloc (Nat.le_refl _) _
          have hst6 := hst.grow liesRN liesRV hb6
          have hn6 := heap_alloc_new w5 (.cells #[.int .i64 xid, .int .i64 xo, .int .i64 xw, .int .i64 xi, .int .i64 xt, .int .i64 xv, .int .i64 xa] 95 (0, 0))
          have hs6 := hb6.size
          have hbs6 : w2.heap.size ≤ (w5.alloc (.cells #[.int .i64 xid, .int .i64 xo, .int .i64 xw, .int .i64 xi, .int .i64 xt, .int .i64 xv, .int .i64 xa] 95)).heap.size := by omega
          have hrow := Lib.hid hst6.rv
          have hyN := Lib.hid (show RV (w5.alloc (.cells #[.int .i64 xid, .int .i64 xo, .int .i64 xw, .int .i64 xi, .int .i64 xt, .int .i64 xv, .int .i64 xa] 95)) (fun _ => False) ⟨xo, xw, xv⟩ (#[.int .i64 xo, .int .i64 xw, .int .i64 xv] : Array Value).toList from ⟨rfl, ⟨ox.2.1, ox.2.2.1, ox.2.2.2.2.2.1⟩⟩)
          have hF0 := Lib.hid (show ∀ k : Nat, (fun _ : Nat => False) k → (fun _ : Nat => False) k from fun _ h => h)
          have hA0 := Lib.hid (show ∀ k, v'.ownBlock = some k → ¬ (fun _ : Nat => False) k from fun _ _ h => h)
          have hL0 := Lib.hid (show ∀ k, (fun _ : Nat => False) k → k < (w5.alloc (.cells #[.int .i64 xid, .int .i64 xo, .int .i64 xw, .int .i64 xi, .int .i64 xt, .int .i64 xv, .int .i64 xa] 95)).heap.size from fun _ h => h.elim)
          have c30 := cell_of_block hst6.at_ 1
          replace hst6 := Lib.hid hst6
          replace hst := Lib.hid hst
          replace htk := Lib.hid htk
          replace hln := Lib.hid hln
          replace hsl := Lib.hid hsl
          replace ox := Lib.hid ox
          replace hn6 := Lib.hid hn6
          replace hb6 := Lib.hid hb6
          clear hr1 hrr
          go_wp2_with (first
            | (refine wpList_buildS rfl 23 1 [(0, .tmp 45)] rfl [(0, .agg #[.int .i64 xo, .int .i64 xw, .int .i64 xv])] rfl _ _ (hsl.out _) ?_)
            | (at_builtin; refine wpList_appRows (P := Tryd.prog) (R := RV) (e := 79) (size := 3) (base := w2.heap.size) (F := fun _ => False) (F' := fun _ => False) rfl liesRV (.tmp 38) (.tmp 46) 23 rfl Tryd.underlying23 24 hinfoV.out (by decide) rfl hrow ⟨xo, xw, xv⟩ #[.int .i64 xo, .int .i64 xw, .int .i64 xv] hyN hF0 hA0 hL0 rfl hln.out (by decide) hbs6 ?_; intro v8 w8 hr8 hO8 hM8; obtain ⟨a8, n8, c8, hv8⟩ : ∃ a n c, v8 = .slice a n c := (by obtain ⟨a, c, e, _⟩ := hr8.out.form; exact ⟨a, _, c, e⟩); subst hv8; have h8 := hO8.out.heap hst6.out.at_ (fun e => by have := (hst6.out.rv.ownLt _ e).1; omega); have c38 := cell_of_block h8 1; have f38 := free_of_block h8 1; have hU9 := Lib.hid ((Upd.refl h8).setCell (j := 1) (.slice a8 n8 c8)); have hst9 := Lib.hid (hst6.out.appV liesRN liesRV hr8.out hO8.out hM8.out hU9.out); replace h8 := Lib.hid h8))
          refine hback2.out _ _ (by kernel_rfl) ?_ ?_
          · simp only [List.getD_cons_zero, List.getD_cons_succ]
            exact ⟨j + 1, by omega, by go_num, .slice a8 n8 c8, by rw [htk.out]; exact hst9.out⟩
          · have h34 := h34.out
            simp only [List.getD_cons_zero, List.getD_cons_succ, h34, intOf]
            omega
        · obtain rfl : j = V := by omega
          rw [show ME.take j = ME from List.take_of_length_le (by rw [hMEl.out]; exact Nat.le_refl _)] at hst
          have a25 := (hst.only.block _ (block_lt a2.out) (by omega)).trans a2.out
          obtain ⟨vN, vlN, vcN, rfl⟩ : ∃ a n c, v = .slice a n c := by obtain ⟨a, c, e, _⟩ := hst.rn.form; exact ⟨a, _, c, e⟩
          obtain ⟨vV, vlV, vcV, rfl⟩ : ∃ a n c, v' = .slice a n c := by obtain ⟨a, c, e, _⟩ := hst.rv.form; exact ⟨a, _, c, e⟩
          have hat := Lib.hid hst.at_
          have huM : Tryd.prog.underlying 25 = _ := Tryd.underlying25
          have iM : (Tryd.prog.info? 25).map (·.size) = some (#[.slice vN vlN vcN, .slice vV vlV vcV] : Array Value).size := by kernel_rfl
          have h1M : (#[.slice vN vlN vcN, .slice vV vlV vcV] : Array Value).all (·.oneCell') = true := by simp [Value.oneCell']
          replace a25 : Hid (w5.heap[n0 + 1]? = some (.cells #[.slice none 0 0, .slice none 0 0] 25 (0, 0))) := Lib.hid a25
          replace hst := Lib.hid hst
          go_wp2_with (first
            | (refine wpList_load_row rfl 25 (.tmp 3) rfl (n0 + 1 + 1) #[.slice vN vlN vcN, .slice vV vlV vcV] _ rfl hat huM rfl iM ?_)
            | (refine wpList_store_row rfl 25 (.tmp 2) (.tmp 50) rfl (n0 + 1) #[.slice none 0 0, .slice none 0 0] #[.slice vN vlN vcN, .slice vV vlV vcV] rfl rfl a25 iM rfl h1M ?_; intro w9 hU9))
          refine ret_cell_row (c := #[.slice vN vlN vcN, .slice vV vlV vcV]) rfl rfl huM rfl iM hU9.out.here ?_
          have hO9 : Only (fun k => k = n0 + 1) w5 w9 := Only.ofUpd hU9.out rfl
          have hln := hst.out.lt
          have hh1 := hst.out.only.below (B := n0) (by omega) (fun k e => by omega)
          have hh2 := hO9.below (B := n0) (by have := hh1.size; omega) (fun k e => by omega)
          refine hpost.out _ _ _ ?_ ?_ ?_
          · exact (hst.out.rn.only liesRN hO9 (fun k hk => hk.elim) (fun k hk e => by have := (hst.out.rn.ownLt k hk).1; omega)).mono (by rw [← hn0.out]; omega)
          · exact (hst.out.rv.only liesRV hO9 (fun k hk => hk.elim) (fun k hk e => by have := (hst.out.rv.ownLt k hk).1; omega)).mono (by rw [← hn0.out]; omega)
          · exact (hB.out.trans (hn0.out ▸ hh1)).trans (hn0.out ▸ hh2)

def ref34OfPost (w : World) (m : St) (x : Ending) (w' : World) : Prop :=
  ∃ v v', x = .returned (.agg #[v, v']) ∧ RowsOf RN 36 40 w.heap.size w' (fun _ => False) v (m.its.map It.nm) ∧ RowsOf RV 38 3 w.heap.size w' (fun _ => False) v' (m.ens.map En.vd) ∧ Below w.heap.size w w'
set_option maxRecDepth 100000 in
set_option maxHeartbeats 1000000 in
theorem ref34Of_any (va : Value) (m : St) (w : World) (ha : ArgS w va m) (l1 : m.its.length ≤ 1000) (l2 : m.ens.length ≤ 1000) :
    Calls Tryd.prog 18 #[va] w (ref34OfPost w m) := by
  obtain ⟨⟨an, cn, av, cv, rfl, hN, hN1, hN2, hV, hV1, hV2⟩, okN, okV⟩ := ha
  have huN : Tryd.prog.underlying 97 = _ := Tryd.underlying97
  have huP : Tryd.prog.underlying 33 = _ := Tryd.underlying33
  have huD : Tryd.prog.underlying 34 = _ := Tryd.underlying34
  have hinfoN := Lib.hid infoNmR
  have hinfoV := Lib.hid infoVdR
  obtain ⟨N, hNl⟩ : ∃ N, N = m.its.length := ⟨_, rfl⟩
  obtain ⟨V, hVl⟩ : ∃ V, V = m.ens.length := ⟨_, rfl⟩
  rw [← hNl, ← hVl]
  rw [← hNl] at l1
  rw [← hVl] at l2
  clear hN1 hN2 hV1 hV2
  have hB : Below w.heap.size w ((((w.alloc (.cells #[.slice an N cn, .slice av V cv] 69)).alloc (.cells #[.slice none 0 0, .slice none 0 0] 30))).alloc (.cells #[.slice none 0 0, .slice none 0 0] 30)) := (((Below.refl _ _).alloc (Nat.le_refl _) _).alloc (by simp) _).alloc (by simp; omega) _
  obtain ⟨w2, hw2⟩ : ∃ w2, w2 = (((w.alloc (.cells #[.slice an N cn, .slice av V cv] 69)).alloc (.cells #[.slice none 0 0, .slice none 0 0] 30))).alloc (.cells #[.slice none 0 0, .slice none 0 0] 30) := ⟨_, rfl⟩
  have e10 : w2.cell? ⟨w.heap.size, 0, none⟩ = some (.slice an N cn) := by rw [hw2]; exact cellAfter (cellAfter (cell_of_block (heap_alloc_new w _) 0) _) _
  have e11 : w2.cell? ⟨w.heap.size, 1, none⟩ = some (.slice av V cv) := by rw [hw2]; exact cellAfter (cellAfter (cell_of_block (heap_alloc_new w _) 1) _) _
  have hsz2 : w2.heap.size = w.heap.size + 3 := by rw [hw2]; simp
  have a2 : w2.heap[w.heap.size + 1]? = some (.cells #[.slice none 0 0, .slice none 0 0] 30 (0, 0)) := by
    have h1 := heap_alloc_new (w.alloc (.cells #[.slice an N cn, .slice av V cv] 69)) (.cells #[.slice none 0 0, .slice none 0 0] 30 (0, 0))
    rw [World.size_alloc] at h1
    rw [hw2]
    exact (((Below.refl _ _).alloc (Nat.le_refl _) _).block _ (block_lt h1)).trans h1
  have a3 : w2.heap[w.heap.size + 2]? = some (.cells #[.slice none 0 0, .slice none 0 0] 30 (0, 0)) := by
    have h1 := heap_alloc_new ((w.alloc (.cells #[.slice an N cn, .slice av V cv] 69)).alloc (.cells #[.slice none 0 0, .slice none 0 0] 30)) (.cells #[.slice none 0 0, .slice none 0 0] 30 (0, 0))
    rw [World.size_alloc, World.size_alloc] at h1
    rw [hw2]
    exact h1
  rw [← hw2] at hB
  have hst0 : OfG RN RV 40 3 36 38 30 (w.heap.size + 2) w2 w2 (.slice none 0 0) (.slice none 0 0) [] [] :=
    ⟨a3, RowsOf.nil _ _, RowsOf.nil _ _, (fun k e => by cases e), Only.refl _ _, by omega⟩
  have hNw := Lib.hid hN
  have hVw := Lib.hid hV
  clear hN hV
  obtain ⟨n0, hn0⟩ : ∃ n0, n0 = w.heap.size := ⟨_, rfl⟩
  obtain ⟨ML, hML⟩ : ∃ ML, ML = (m.its.map It.nm) := ⟨_, rfl⟩
  obtain ⟨ME, hME⟩ : ∃ ME, ME = (m.ens.map En.vd) := ⟨_, rfl⟩
  have hMLl : ML.length = N := by rw [hML, hNl]; simp
  have hMEl : ME.length = V := by rw [hME, hVl]; simp
  have hpost : Hid (∀ v v' w', RowsOf RN 36 40 w.heap.size w' (fun _ => False) v ML → RowsOf RV 38 3 w.heap.size w' (fun _ => False) v' ME → Below w.heap.size w w' → ref34OfPost w m (.returned (.agg #[v, v'])) w') := Lib.hid (fun v v' w' a b c => ⟨v, v', rfl, by rw [← hML]; exact a, by rw [← hME]; exact b, c⟩)
  replace hML := Lib.hid hML
  replace hME := Lib.hid hME
  replace hMLl := Lib.hid hMLl
  replace hMEl := Lib.hid hMEl
  replace hw2 := Lib.hid hw2
  replace okN := Lib.hid okN
  replace okV := Lib.hid okV
  replace hNl := Lib.hid hNl
  replace hVl := Lib.hid hVl
  replace hst0 := Lib.hid hst0
  replace a2 := Lib.hid a2
  replace hB := Lib.hid hB
  clear a3
  go_enter Tryd.func18, Tryd.ntmps18
  go_wp2_with fail
  rw [← hw2.out]
  rw [← hn0] at e10 e11 a2 hst0 hsz2 ⊢
  replace hn0 := Lib.hid hn0
  clear hw2
  have hbw : ∀ wr, Only (fun k => k = n0 + 2) w2 wr → (∀ x, x.block < w2.heap.size → x.block ≠ n0 + 2 → wr.cell? x = w2.cell? x) ∧ Below n0 w2 wr := fun wr hO => ⟨fun x hx hne => World.cell?_of_block (a := x) (hO.block _ hx hne), hO.below (by omega) (fun k e => by omega)⟩
  replace hbw := Lib.hid hbw
  refine wp_loopF [(false, 5), (true, 1), (false, 6), (true, 19), (false, 21)] _ [] (fun U wr => ∃ k : Nat, k ≤ N ∧ U 12 = .int .i64 (k : Nat) ∧ ∃ v, OfG RN RV 40 3 36 38 30 (n0 + 2) w2 wr v (.slice none 0 0) (ML.take k) []) (fun U _ => N - (intOf (U 12)).toNat) ?_ ?_
  · simp only [List.getD_cons_zero, List.getD_cons_succ]
    exact ⟨0, Nat.zero_le _, rfl, _, hst0.out⟩
  · clear hst0
    intro U wr hrel KK hback l' hl'
    obtain ⟨k, hk, h12, v, hst⟩ := hrel
    simp only [fillS, popSeg, cond_true, cond_false, Nat.reduceAdd, h12] at hl'
    subst hl'
    replace h12 := Lib.hid h12
    by_cases hlt : k < N
    · have hlt2 : (k : Int) < (N : Int) := by omega
      have hkN : k < m.its.length := by rw [← hNl.out]; exact hlt
      have hrr : RowAt It.list 76 wr an m.its := fun j hj => by
        obtain ⟨b, o, e, h⟩ := hNw.out j hj
        exact ⟨b, o, e, rangeAt_below h (B := n0) ((show Below n0 w w2 by rw [hn0.out]; exact hB.out).trans (hbw.out wr hst.only).2) (by rw [hn0.out]; exact Nat.le_refl _)⟩
      obtain ⟨b1, o1, rfl, hr1⟩ := hrr k hkN
      have ox := okN.out _ (List.getElem_mem hkN)
      have hkM : k < ML.length := by rw [hMLl.out]; exact hlt
      have hge : ML[k] = m.its[k].nm := by simp [hML.out]
      have htk : ML.take (k + 1) = ML.take k ++ [m.its[k].nm] := by rw [List.take_succ_eq_append_getElem hkM, hge]
      clear hge
      generalize m.its[k] = x at *
      obtain ⟨X, hX⟩ : ∃ X, X = x.list.toArray := ⟨_, rfl⟩
      have hX1 : X.all (·.oneCell') = true := by rw [hX]; exact x.all_one
      have iX : (Tryd.prog.info? 97).map (·.size) = some X.size := by rw [hX, It.size ox]; kernel_rfl
      have zX : (Tryd.zeroCells97).size = X.size := by rw [hX, It.size ox]; kernel_rfl
      have ix : (Tryd.prog.info? 97).map (·.size) = some x.list.length := by rw [It.list_length ox]; kernel_rfl
      have iP : (Tryd.prog.info? 33).map (·.size) = some x.p.list.length := by kernel_rfl
      have iD : (Tryd.prog.info? 34).map (·.size) = some (cB x.file).length := by rw [cB_length, ox.file]; kernel_rfl
      have iD2 : (Tryd.prog.info? 34).map (·.size) = some (cB x.root).length := by rw [cB_length, ox.root]; kernel_rfl
      have hbd := fun W => build_nmR x.nm ox.file W
      obtain ⟨Y, hY⟩ : ∃ Y, Y = (x.nm).list.toArray := ⟨_, rfl⟩
      have hYs : Y.size = 40 := by rw [hY]; exact Nm.size (x := x.nm) ox.file
      have hyY := fun W => (show RN W (fun _ => False) (x.nm) Y.toList from ⟨by rw [hY], It.nm_ok ox⟩)
      simp only [It.nm] at hbd hY
      obtain ⟨S, hS⟩ : ∃ S, S = x.s := ⟨_, rfl⟩
      obtain ⟨B, hBk⟩ : ∃ B, B = x.k := ⟨_, rfl⟩
      obtain ⟨PP, hPP⟩ : ∃ PP, PP = x.p.list.toArray := ⟨_, rfl⟩
      obtain ⟨DD, hDD⟩ : ∃ DD, DD = (cB x.file).toArray := ⟨_, rfl⟩
      obtain ⟨RR, hRR⟩ : ∃ RR, RR = (cB x.root).toArray := ⟨_, rfl⟩
      obtain ⟨NO, hNO⟩ : ∃ NO, NO = x.n := ⟨_, rfl⟩
      obtain ⟨TT, hTT⟩ : ∃ TT, TT = x.t := ⟨_, rfl⟩
      obtain ⟨UU, hUU⟩ : ∃ UU, UU = x.u := ⟨_, rfl⟩
      obtain ⟨QQ, hQQ⟩ : ∃ QQ, QQ = x.r := ⟨_, rfl⟩
      rw [← hS, ← hBk, ← hPP, ← hDD] at hbd
      rw [← hS, ← hBk] at hY
      rw [← hY] at hbd
      have hsl := fun W => slice_one (P := Tryd.prog) (t := 27) Tryd.underlying27 infoNmR (by decide) (by decide) Y hYs W
      have hcX : ∀ (W : World) b, W.heap[b]? = some (.cells X 97 (0, 0)) → W.cell? ⟨b, 0, none⟩ = some (.int .i64 NO) ∧ W.cell? ⟨b, 1, none⟩ = some (.string S) ∧ W.cell? ⟨b, 72, none⟩ = some (.int .i64 TT) ∧ W.cell? ⟨b, 73, none⟩ = some (.bool B) ∧ W.cell? ⟨b, 74, none⟩ = some (.int .i64 UU) ∧ W.cell? ⟨b, 75, none⟩ = some (.int .i64 QQ) ∧ W.rangeAt b 2 x.p.list ∧ W.rangeAt b 8 (cB x.root) ∧ W.rangeAt b 40 (cB x.file) := fun W b h => by
        rw [cell_of_block h, cell_of_block h, cell_of_block h, cell_of_block h, cell_of_block h, cell_of_block h, hX]
        simp only [List.getElem?_toArray]
        rw [hNO, hS, hTT, hBk, hUU, hQQ]
        exact ⟨It.c0 x, It.c1 x, It.c72 ox, It.c73 ox, It.c74 ox, It.c75 ox, rangeAt_sub h (by rw [hX]; exact It.sub_p x), rangeAt_sub h (by rw [hX]; exact It.sub_root ox), rangeAt_sub h (by rw [hX]; exact It.sub_file ox)⟩
      have hz1 : Hid ((wr.alloc (.cells Tryd.zeroCells97 97)).heap[wr.heap.size]? = some (.cells Tryd.zeroCells97 97 (0, 0))) := heap_alloc_new wr (.cells Tryd.zeroCells97 97 (0, 0))
      have hln : (ML.take k).length ≤ 1000000 := by rw [List.length_take]; omega
      have hswr := hst.only.size
      replace hst := Lib.hid hst
      replace htk := Lib.hid htk
      replace hX := Lib.hid hX
      replace hPP := Lib.hid hPP
      replace hDD := Lib.hid hDD
      replace hRR := Lib.hid hRR
      replace hcX := Lib.hid hcX
      replace hr1 := Lib.hid hr1
      replace hbd := Lib.hid hbd
      replace hsl := Lib.hid hsl
      replace hln := Lib.hid hln
      replace ox := Lib.hid ox
      replace hyY := Lib.hid hyY
      clear hS hBk hNO hTT hUU hQQ hY hrr
      go_wp2_with (first
        | ((with_reducible show wpList _ _ _ (Oper.mk _ (Op.load 97 (.tmp 14)) _ _ _ _ :: _) _ _); (refine wpList_load_mid rfl 97 (.tmp 14) rfl b1 (o1 + k * 76) rfl x.list _ hr1.out huN rfl ix ?_); rw [← hX.out])
        | ((with_reducible show wpList _ _ _ (Oper.mk _ (Op.store 97 (.tmp 5) _) _ _ _ _ :: _) _ _); (refine wpList_store_row rfl 97 (.tmp 5) (.tmp 15) rfl wr.heap.size _ X rfl rfl hz1 iX zX hX1 ?_); intro w3 hU3; have hb3 := Lib.hid (((Below.refl wr.heap.size wr).alloc (Nat.le_refl _) _).trans (hU3.out.below (Nat.le_refl _))); have hst3 := Lib.hid (hst.out.grow liesRN liesRV hb3.out); have c30 := cell_of_block hst3.out.at_ 0; obtain ⟨k0, k1, k72, k73, k74, k75, rP, rR, rD⟩ := hcX.out _ _ hU3.out.here; replace rP := Lib.hid rP; replace rR := Lib.hid rR; replace rD := Lib.hid rD; have hrow := Lib.hid hst3.out.rn; have hyN := Lib.hid (hyY.out w3); have hF0 := Lib.hid (show ∀ k : Nat, (fun _ : Nat => False) k → (fun _ : Nat => False) k from fun _ h => h); have hA0 := Lib.hid (show ∀ k, v.ownBlock = some k → ¬ (fun _ : Nat => False) k from fun _ _ h => h); have hL0 := Lib.hid (show ∀ k, (fun _ : Nat => False) k → k < w3.heap.size from fun _ h => h.elim); have hbs3 : w2.heap.size ≤ w3.heap.size := (by have := hb3.out.size; omega))
        | ((with_reducible show wpList _ _ _ (Oper.mk _ (Op.load 33 (.tmp 20)) _ _ _ _ :: _) _ _); (refine wpList_load_mid rfl 33 (.tmp 20) rfl wr.heap.size 2 rfl x.p.list _ rP.out huP rfl iP ?_); rw [← hPP.out])
        | ((with_reducible show wpList _ _ _ (Oper.mk _ (Op.load 34 (.tmp 22)) _ _ _ _ :: _) _ _); (refine wpList_load_mid rfl 34 (.tmp 22) rfl wr.heap.size 40 rfl (cB x.file) _ rD.out huD rfl iD ?_); rw [← hDD.out])
        | ((with_reducible show wpList _ _ _ (Oper.mk _ (Op.build 36 _) _ _ _ _ :: _) _ _); refine wpList_buildV rfl 36 [(0, .tmp 19), (1, .tmp 21), (2, .tmp 23), (3, .tmp 25)] rfl [(0, .string S), (1, .agg PP), (2, .agg DD), (3, .bool B)] rfl _ (hbd.out _) ?_)
        | ((with_reducible show wpList _ _ _ (Oper.mk _ (Op.buildSlice _ _ _) _ _ _ _ :: _) _ _); refine wpList_buildS rfl 27 1 [(0, .tmp 26)] rfl [(0, .agg Y)] rfl _ _ (hsl.out _) ?_)
        | (at_builtin; refine wpList_appRows (P := Tryd.prog) (R := RN) (e := 36) (size := 40) (base := w2.heap.size) (F := fun _ => False) (F' := fun _ => False) rfl liesRN (.tmp 17) (.tmp 27) 27 rfl Tryd.underlying27 104 hinfoN.out (by decide) rfl hrow (x.nm) Y hyN hF0 hA0 hL0 rfl hln.out (by decide) hbs3 ?_; intro v5 w5 hr5 hO5 hM5; obtain ⟨a5, n5, c5, hv5⟩ : ∃ a n c, v5 = .slice a n c := (by obtain ⟨a, c, e, _⟩ := hr5.out.form; exact ⟨a, _, c, e⟩); subst hv5; have h5 := hO5.out.heap hst3.out.at_ (fun e => by have := (hst3.out.rn.ownLt _ e).1; omega); have c35 := cell_of_block h5 0; have f35 := free_of_block h5 0; have hU6 := Lib.hid ((Upd.refl h5).setCell (j := 0) (.slice a5 n5 c5)); have hst6 := Lib.hid (hst3.out.appN liesRN liesRV hr5.out hO5.out hM5.out hU6.out); replace h5 := Lib.hid h5))
      refine hback.out _ _ (by kernel_rfl) ?_ ?_
      · simp only [List.getD_cons_zero, List.getD_cons_succ]
        exact ⟨k + 1, by omega, by go_num, .slice a5 n5 c5, by rw [htk.out]; exact hst6.out⟩
      · have h12 := h12.out
        simp only [List.getD_cons_zero, List.getD_cons_succ, h12, intOf]
        omega
    · obtain rfl : k = N := by omega
      rw [show ML.take k = ML from List.take_of_length_le (by rw [hMLl.out]; exact Nat.le_refl _)] at hst
      have hrr : RowAt En.list 7 wr av m.ens := fun j hj => by
        obtain ⟨b, o, e, h⟩ := hVw.out j hj
        exact ⟨b, o, e, rangeAt_below h (B := n0) ((show Below n0 w w2 by rw [hn0.out]; exact hB.out).trans (hbw.out wr hst.only).2) (by rw [hn0.out]; exact Nat.le_refl _)⟩
      have e11r := ((hbw.out wr hst.only).1 ⟨n0, 1, none⟩ (World.block_lt_of_cell? w2 _ e11) (by simp)).trans e11
      have a2r := (hst.only.block _ (block_lt a2.out) (by omega)).trans a2.out
      have hswr := hst.only.size
      replace hst := Lib.hid hst
      replace a2r := Lib.hid a2r
      go_wp2_with fail
      refine wp_loopF [(false, 7), (true, 1), (false, 26), (true, 17), (false, 1)] _ [] (fun U2 w5 => ∃ j : Nat, j ≤ V ∧ U2 34 = .int .i64 (j : Nat) ∧ ∃ v', OfG RN RV 40 3 36 38 30 (n0 + 2) w2 w5 v v' ML (ME.take j)) (fun U2 _ => V - (intOf (U2 34)).toNat) ?_ ?_
      · simp only [List.getD_cons_zero, List.getD_cons_succ]
        exact ⟨0, Nat.zero_le _, rfl, _, hst.out⟩
      · clear hrr hst hback a2r e11r
        intro U2 w5 hrel KK2 hback2 l2 hl2
        obtain ⟨j, hj, h34, v', hst⟩ := hrel
        simp only [fillS, popSeg, cond_true, cond_false, Nat.reduceAdd, h34] at hl2
        subst hl2
        replace h34 := Lib.hid h34
        by_cases hlt2 : j < V
        · have hlt3 : (j : Int) < (V : Int) := by omega
          have hkV : j < m.ens.length := by rw [← hVl.out]; exact hlt2
          have hrr : RowAt En.list 7 w5 av m.ens := fun j hj => by
            obtain ⟨b, o, e, h⟩ := hVw.out j hj
            exact ⟨b, o, e, rangeAt_below h (B := n0) ((show Below n0 w w2 by rw [hn0.out]; exact hB.out).trans (hbw.out w5 hst.only).2) (by rw [hn0.out]; exact Nat.le_refl _)⟩
          obtain ⟨b1, o1, rfl, hr1⟩ := hrr j hkV
          have ox := okV.out _ (List.getElem_mem hkV)
          have hkE : j < ME.length := by rw [hMEl.out]; exact hlt2
          have hge : ME[j] = m.ens[j].vd := by simp [hME.out]
          have htk : ME.take (j + 1) = ME.take j ++ [m.ens[j].vd] := by rw [List.take_succ_eq_append_getElem hkE, hge]
          clear hge
          generalize m.ens[j] = x at *
          obtain ⟨xid, xo, xw, xi, xt, xv, xa⟩ := x
          simp only [En.vd] at htk
          have d0 := hr1 0 _ rfl
          have d1 := hr1 1 _ rfl
          have d2 := hr1 2 _ rfl
          have d3 := hr1 3 _ rfl
          have d4 := hr1 4 _ rfl
          have d5 := hr1 5 _ rfl
          have d6 := hr1 6 _ rfl
          simp only [Nat.add_zero] at d0 d1 d2 d3 d4 d5 d6
          have hln : (ME.take j).length ≤ 1000000 := by rw [List.length_take]; omega
          have hsw5 := hst.only.size
          have hsl := fun W => slice_one (P := Tryd.prog) (t := 28) Tryd.underlying28 infoVdR (by decide) (by decide) #[.int .i64 xo, .int .i64 xw, .int .i64 xv] rfl W
          have hb6 : Below w5.heap.size w5 (w5.alloc (.cells #[.int .i64 xid, .int .i64 xo, .int .i64 xw, .int .i64 xi, .int .i64 xt, .int .i64 xv, .int .i64 xa] 98)) := (Below.refl _ _).alloc (Nat.le_refl _) _
          have hst6 := hst.grow liesRN liesRV hb6
          have hn6 := heap_alloc_new w5 (.cells #[.int .i64 xid, .int .i64 xo, .int .i64 xw, .int .i64 xi, .int .i64 xt, .int .i64 xv, .int .i64 xa] 98 (0, 0))
          have hs6 := hb6.size
          have hbs6 : w2.heap.size ≤ (w5.alloc (.cells #[.int .i64 xid, .int .i64 xo, .int .i64 xw, .int .i64 xi, .int .i64 xt, .int .i64 xv, .int .i64 xa] 98)).heap.size := by omega
          have hrow := Lib.hid hst6.rv
          have hyN := Lib.hid (show RV (w5.alloc (.cells #[.int .i64 xid, .int .i64 xo, .int .i64 xw, .int .i64 xi, .int .i64 xt, .int .i64 xv, .int .i64 xa] 98)) (fun _ => False) ⟨xo, xw, xv⟩ (#[.int .i64 xo, .int .i64 xw, .int .i64 xv] : Array Value).toList from ⟨rfl, ⟨ox.2.1, ox.2.2.1, ox.2.2.2.2.2.1⟩⟩)
          have hF0 := Lib.hid (show ∀ k : Nat, (fun _ : Nat => False) k → (fun _ : Nat => False) k from fun _ h => h)
          have hA0 := Lib.hid (show ∀ k, v'.ownBlock = some k → ¬ (fun _ : Nat => False) k from fun _ _ h => h)
          have hL0 := Lib.hid (show ∀ k, (fun _ : Nat => False) k → k < (w5.alloc (.cells #[.int .i64 xid, .int .i64 xo, .int .i64 xw, .int .i64 xi, .int .i64 xt, .int .i64 xv, .int .i64 xa] 98)).heap.size from fun _ h => h.elim)
          have c30 := cell_of_block hst6.at_ 1
          replace hst6 := Lib.hid hst6
          replace hst := Lib.hid hst
          replace htk := Lib.hid htk
          replace hln := Lib.hid hln
          replace hsl := Lib.hid hsl
          replace ox := Lib.hid ox
          replace hn6 := Lib.hid hn6
          replace hb6 := Lib.hid hb6
          clear hr1 hrr
          go_wp2_with (first
            | (refine wpList_buildS rfl 28 1 [(0, .tmp 46)] rfl [(0, .agg #[.int .i64 xo, .int .i64 xw, .int .i64 xv])] rfl _ _ (hsl.out _) ?_)
            | (at_builtin; refine wpList_appRows (P := Tryd.prog) (R := RV) (e := 38) (size := 3) (base := w2.heap.size) (F := fun _ => False) (F' := fun _ => False) rfl liesRV (.tmp 39) (.tmp 47) 28 rfl Tryd.underlying28 24 hinfoV.out (by decide) rfl hrow ⟨xo, xw, xv⟩ #[.int .i64 xo, .int .i64 xw, .int .i64 xv] hyN hF0 hA0 hL0 rfl hln.out (by decide) hbs6 ?_; intro v8 w8 hr8 hO8 hM8; obtain ⟨a8, n8, c8, hv8⟩ : ∃ a n c, v8 = .slice a n c := (by obtain ⟨a, c, e, _⟩ := hr8.out.form; exact ⟨a, _, c, e⟩); subst hv8; have h8 := hO8.out.heap hst6.out.at_ (fun e => by have := (hst6.out.rv.ownLt _ e).1; omega); have c38 := cell_of_block h8 1; have f38 := free_of_block h8 1; have hU9 := Lib.hid ((Upd.refl h8).setCell (j := 1) (.slice a8 n8 c8)); have hst9 := Lib.hid (hst6.out.appV liesRN liesRV hr8.out hO8.out hM8.out hU9.out); replace h8 := Lib.hid h8))
          refine hback2.out _ _ (by kernel_rfl) ?_ ?_
          · simp only [List.getD_cons_zero, List.getD_cons_succ]
            exact ⟨j + 1, by omega, by go_num, .slice a8 n8 c8, by rw [htk.out]; exact hst9.out⟩
          · have h34 := h34.out
            simp only [List.getD_cons_zero, List.getD_cons_succ, h34, intOf]
            omega
        · obtain rfl : j = V := by omega
          rw [show ME.take j = ME from List.take_of_length_le (by rw [hMEl.out]; exact Nat.le_refl _)] at hst
          have a25 := (hst.only.block _ (block_lt a2.out) (by omega)).trans a2.out
          obtain ⟨vN, vlN, vcN, rfl⟩ : ∃ a n c, v = .slice a n c := by obtain ⟨a, c, e, _⟩ := hst.rn.form; exact ⟨a, _, c, e⟩
          obtain ⟨vV, vlV, vcV, rfl⟩ : ∃ a n c, v' = .slice a n c := by obtain ⟨a, c, e, _⟩ := hst.rv.form; exact ⟨a, _, c, e⟩
          have hat := Lib.hid hst.at_
          have huM : Tryd.prog.underlying 30 = _ := Tryd.underlying30
          have iM : (Tryd.prog.info? 30).map (·.size) = some (#[.slice vN vlN vcN, .slice vV vlV vcV] : Array Value).size := by kernel_rfl
          have h1M : (#[.slice vN vlN vcN, .slice vV vlV vcV] : Array Value).all (·.oneCell') = true := by simp [Value.oneCell']
          replace a25 : Hid (w5.heap[n0 + 1]? = some (.cells #[.slice none 0 0, .slice none 0 0] 30 (0, 0))) := Lib.hid a25
          replace hst := Lib.hid hst
          go_wp2_with (first
            | (refine wpList_load_row rfl 30 (.tmp 3) rfl (n0 + 1 + 1) #[.slice vN vlN vcN, .slice vV vlV vcV] _ rfl hat huM rfl iM ?_)
            | (refine wpList_store_row rfl 30 (.tmp 2) (.tmp 51) rfl (n0 + 1) #[.slice none 0 0, .slice none 0 0] #[.slice vN vlN vcN, .slice vV vlV vcV] rfl rfl a25 iM rfl h1M ?_; intro w9 hU9))
          refine ret_cell_row (c := #[.slice vN vlN vcN, .slice vV vlV vcV]) rfl rfl huM rfl iM hU9.out.here ?_
          have hO9 : Only (fun k => k = n0 + 1) w5 w9 := Only.ofUpd hU9.out rfl
          have hln := hst.out.lt
          have hh1 := hst.out.only.below (B := n0) (by omega) (fun k e => by omega)
          have hh2 := hO9.below (B := n0) (by have := hh1.size; omega) (fun k e => by omega)
          refine hpost.out _ _ _ ?_ ?_ ?_
          · exact (hst.out.rn.only liesRN hO9 (fun k hk => hk.elim) (fun k hk e => by have := (hst.out.rn.ownLt k hk).1; omega)).mono (by rw [← hn0.out]; omega)
          · exact (hst.out.rv.only liesRV hO9 (fun k hk => hk.elim) (fun k hk e => by have := (hst.out.rv.ownLt k hk).1; omega)).mono (by rw [← hn0.out]; omega)
          · exact (hB.out.trans (hn0.out ▸ hh1)).trans (hn0.out ▸ hh2)

def law21OfPost (w : World) (m : St) (x : Ending) (w' : World) : Prop :=
  ∃ v v', x = .returned (.agg #[v, v']) ∧ RowsOf RI 97 76 w.heap.size w' (fun _ => False) v m.its ∧ RowsOf RE 98 7 w.heap.size w' (fun _ => False) v' m.ens ∧ Below w.heap.size w w'
set_option maxRecDepth 100000 in
set_option maxHeartbeats 1000000 in
theorem law21Of_any (va : Value) (m : St) (w : World) (ha : ArgS w va m) (l1 : m.its.length ≤ 1000) (l2 : m.ens.length ≤ 1000) :
    Calls Tryd.prog 19 #[va] w (law21OfPost w m) := by
  obtain ⟨⟨an, cn, av, cv, rfl, hN, hN1, hN2, hV, hV1, hV2⟩, okN, okV⟩ := ha
  have huN : Tryd.prog.underlying 93 = _ := Tryd.underlying93
  have huP : Tryd.prog.underlying 42 = _ := Tryd.underlying42
  have huD : Tryd.prog.underlying 57 = _ := Tryd.underlying57
  have hinfoN := Lib.hid infoItR
  have hinfoV := Lib.hid infoEnR
  obtain ⟨N, hNl⟩ : ∃ N, N = m.its.length := ⟨_, rfl⟩
  obtain ⟨V, hVl⟩ : ∃ V, V = m.ens.length := ⟨_, rfl⟩
  rw [← hNl, ← hVl]
  rw [← hNl] at l1
  rw [← hVl] at l2
  clear hN1 hN2 hV1 hV2
  have hB : Below w.heap.size w ((((w.alloc (.cells #[.slice an N cn, .slice av V cv] 56)).alloc (.cells #[.slice none 0 0, .slice none 0 0] 69))).alloc (.cells #[.slice none 0 0, .slice none 0 0] 69)) := (((Below.refl _ _).alloc (Nat.le_refl _) _).alloc (by simp) _).alloc (by simp; omega) _
  obtain ⟨w2, hw2⟩ : ∃ w2, w2 = (((w.alloc (.cells #[.slice an N cn, .slice av V cv] 56)).alloc (.cells #[.slice none 0 0, .slice none 0 0] 69))).alloc (.cells #[.slice none 0 0, .slice none 0 0] 69) := ⟨_, rfl⟩
  have e10 : w2.cell? ⟨w.heap.size, 0, none⟩ = some (.slice an N cn) := by rw [hw2]; exact cellAfter (cellAfter (cell_of_block (heap_alloc_new w _) 0) _) _
  have e11 : w2.cell? ⟨w.heap.size, 1, none⟩ = some (.slice av V cv) := by rw [hw2]; exact cellAfter (cellAfter (cell_of_block (heap_alloc_new w _) 1) _) _
  have hsz2 : w2.heap.size = w.heap.size + 3 := by rw [hw2]; simp
  have a2 : w2.heap[w.heap.size + 1]? = some (.cells #[.slice none 0 0, .slice none 0 0] 69 (0, 0)) := by
    have h1 := heap_alloc_new (w.alloc (.cells #[.slice an N cn, .slice av V cv] 56)) (.cells #[.slice none 0 0, .slice none 0 0] 69 (0, 0))
    rw [World.size_alloc] at h1
    rw [hw2]
    exact (((Below.refl _ _).alloc (Nat.le_refl _) _).block _ (block_lt h1)).trans h1
  have a3 : w2.heap[w.heap.size + 2]? = some (.cells #[.slice none 0 0, .slice none 0 0] 69 (0, 0)) := by
    have h1 := heap_alloc_new ((w.alloc (.cells #[.slice an N cn, .slice av V cv] 56)).alloc (.cells #[.slice none 0 0, .slice none 0 0] 69)) (.cells #[.slice none 0 0, .slice none 0 0] 69 (0, 0))
    rw [World.size_alloc, World.size_alloc] at h1
    rw [hw2]
    exact h1
  rw [← hw2] at hB
  have hst0 : OfG RI RE 76 7 97 98 69 (w.heap.size + 2) w2 w2 (.slice none 0 0) (.slice none 0 0) [] [] :=
    ⟨a3, RowsOf.nil _ _, RowsOf.nil _ _, (fun k e => by cases e), Only.refl _ _, by omega⟩
  have hNw := Lib.hid hN
  have hVw := Lib.hid hV
  clear hN hV
  obtain ⟨n0, hn0⟩ : ∃ n0, n0 = w.heap.size := ⟨_, rfl⟩
  obtain ⟨ML, hML⟩ : ∃ ML, ML = m.its := ⟨_, rfl⟩
  obtain ⟨ME, hME⟩ : ∃ ME, ME = m.ens := ⟨_, rfl⟩
  have hMLl : ML.length = N := by rw [hML, hNl]
  have hMEl : ME.length = V := by rw [hME, hVl]
  have hpost : Hid (∀ v v' w', RowsOf RI 97 76 w.heap.size w' (fun _ => False) v ML → RowsOf RE 98 7 w.heap.size w' (fun _ => False) v' ME → Below w.heap.size w w' → law21OfPost w m (.returned (.agg #[v, v'])) w') := Lib.hid (fun v v' w' a b c => ⟨v, v', rfl, by rw [← hML]; exact a, by rw [← hME]; exact b, c⟩)
  replace hML := Lib.hid hML
  replace hME := Lib.hid hME
  replace hMLl := Lib.hid hMLl
  replace hMEl := Lib.hid hMEl
  replace hw2 := Lib.hid hw2
  replace okN := Lib.hid okN
  replace okV := Lib.hid okV
  replace hNl := Lib.hid hNl
  replace hVl := Lib.hid hVl
  replace hst0 := Lib.hid hst0
  replace a2 := Lib.hid a2
  replace hB := Lib.hid hB
  clear a3
  go_enter Tryd.func19, Tryd.ntmps19
  go_wp2_with fail
  rw [← hw2.out]
  rw [← hn0] at e10 e11 a2 hst0 hsz2 ⊢
  replace hn0 := Lib.hid hn0
  clear hw2
  have hbw : ∀ wr, Only (fun k => k = n0 + 2) w2 wr → (∀ x, x.block < w2.heap.size → x.block ≠ n0 + 2 → wr.cell? x = w2.cell? x) ∧ Below n0 w2 wr := fun wr hO => ⟨fun x hx hne => World.cell?_of_block (a := x) (hO.block _ hx hne), hO.below (by omega) (fun k e => by omega)⟩
  replace hbw := Lib.hid hbw
  refine wp_loopF [(false, 5), (true, 1), (false, 6), (true, 29), (false, 15)] _ [] (fun U wr => ∃ k : Nat, k ≤ N ∧ U 12 = .int .i64 (k : Nat) ∧ ∃ v, OfG RI RE 76 7 97 98 69 (n0 + 2) w2 wr v (.slice none 0 0) (ML.take k) []) (fun U _ => N - (intOf (U 12)).toNat) ?_ ?_
  · simp only [List.getD_cons_zero, List.getD_cons_succ]
    exact ⟨0, Nat.zero_le _, rfl, _, hst0.out⟩
  · clear hst0
    intro U wr hrel KK hback l' hl'
    obtain ⟨k, hk, h12, v, hst⟩ := hrel
    simp only [fillS, popSeg, cond_true, cond_false, Nat.reduceAdd, h12] at hl'
    subst hl'
    replace h12 := Lib.hid h12
    by_cases hlt : k < N
    · have hlt2 : (k : Int) < (N : Int) := by omega
      have hkN : k < m.its.length := by rw [← hNl.out]; exact hlt
      have hrr : RowAt It.list 76 wr an m.its := fun j hj => by
        obtain ⟨b, o, e, h⟩ := hNw.out j hj
        exact ⟨b, o, e, rangeAt_below h (B := n0) ((show Below n0 w w2 by rw [hn0.out]; exact hB.out).trans (hbw.out wr hst.only).2) (by rw [hn0.out]; exact Nat.le_refl _)⟩
      obtain ⟨b1, o1, rfl, hr1⟩ := hrr k hkN
      have ox := okN.out _ (List.getElem_mem hkN)
      have hkM : k < ML.length := by rw [hMLl.out]; exact hlt
      have hge : ML[k] = m.its[k] := by simp [hML.out]
      have htk : ML.take (k + 1) = ML.take k ++ [m.its[k]] := by rw [List.take_succ_eq_append_getElem hkM, hge]
      clear hge
      generalize m.its[k] = x at *
      obtain ⟨X, hX⟩ : ∃ X, X = x.list.toArray := ⟨_, rfl⟩
      have hX1 : X.all (·.oneCell') = true := by rw [hX]; exact x.all_one
      have iX : (Tryd.prog.info? 93).map (·.size) = some X.size := by rw [hX, It.size ox]; kernel_rfl
      have zX : (Tryd.zeroCells93).size = X.size := by rw [hX, It.size ox]; kernel_rfl
      have ix : (Tryd.prog.info? 93).map (·.size) = some x.list.length := by rw [It.list_length ox]; kernel_rfl
      have iP : (Tryd.prog.info? 42).map (·.size) = some x.p.list.length := by kernel_rfl
      have iD : (Tryd.prog.info? 57).map (·.size) = some (cB x.file).length := by rw [cB_length, ox.file]; kernel_rfl
      have iD2 : (Tryd.prog.info? 57).map (·.size) = some (cB x.root).length := by rw [cB_length, ox.root]; kernel_rfl
      have hbd := fun W => build_itR x ox W
      obtain ⟨Y, hY⟩ : ∃ Y, Y = (x).list.toArray := ⟨_, rfl⟩
      have hYs : Y.size = 76 := by rw [hY]; exact It.size ox
      have hyY := fun W => (show RI W (fun _ => False) (x) Y.toList from ⟨by rw [hY], ox⟩)
      skip
      obtain ⟨S, hS⟩ : ∃ S, S = x.s := ⟨_, rfl⟩
      obtain ⟨B, hBk⟩ : ∃ B, B = x.k := ⟨_, rfl⟩
      obtain ⟨PP, hPP⟩ : ∃ PP, PP = x.p.list.toArray := ⟨_, rfl⟩
      obtain ⟨DD, hDD⟩ : ∃ DD, DD = (cB x.file).toArray := ⟨_, rfl⟩
      obtain ⟨RR, hRR⟩ : ∃ RR, RR = (cB x.root).toArray := ⟨_, rfl⟩
      obtain ⟨NO, hNO⟩ : ∃ NO, NO = x.n := ⟨_, rfl⟩
      obtain ⟨TT, hTT⟩ : ∃ TT, TT = x.t := ⟨_, rfl⟩
      obtain ⟨UU, hUU⟩ : ∃ UU, UU = x.u := ⟨_, rfl⟩
      obtain ⟨QQ, hQQ⟩ : ∃ QQ, QQ = x.r := ⟨_, rfl⟩
      rw [← hS, ← hBk, ← hPP, ← hDD, ← hRR, ← hNO, ← hTT, ← hUU, ← hQQ] at hbd
      rw [← hY] at hbd
      have hsl := fun W => slice_one (P := Tryd.prog) (t := 66) Tryd.underlying66 infoItR (by decide) (by decide) Y hYs W
      have hcX : ∀ (W : World) b, W.heap[b]? = some (.cells X 93 (0, 0)) → W.cell? ⟨b, 0, none⟩ = some (.int .i64 NO) ∧ W.cell? ⟨b, 1, none⟩ = some (.string S) ∧ W.cell? ⟨b, 72, none⟩ = some (.int .i64 TT) ∧ W.cell? ⟨b, 73, none⟩ = some (.bool B) ∧ W.cell? ⟨b, 74, none⟩ = some (.int .i64 UU) ∧ W.cell? ⟨b, 75, none⟩ = some (.int .i64 QQ) ∧ W.rangeAt b 2 x.p.list ∧ W.rangeAt b 8 (cB x.root) ∧ W.rangeAt b 40 (cB x.file) := fun W b h => by
        rw [cell_of_block h, cell_of_block h, cell_of_block h, cell_of_block h, cell_of_block h, cell_of_block h, hX]
        simp only [List.getElem?_toArray]
        rw [hNO, hS, hTT, hBk, hUU, hQQ]
        exact ⟨It.c0 x, It.c1 x, It.c72 ox, It.c73 ox, It.c74 ox, It.c75 ox, rangeAt_sub h (by rw [hX]; exact It.sub_p x), rangeAt_sub h (by rw [hX]; exact It.sub_root ox), rangeAt_sub h (by rw [hX]; exact It.sub_file ox)⟩
      have hz1 : Hid ((wr.alloc (.cells Tryd.zeroCells93 93)).heap[wr.heap.size]? = some (.cells Tryd.zeroCells93 93 (0, 0))) := heap_alloc_new wr (.cells Tryd.zeroCells93 93 (0, 0))
      have hln : (ML.take k).length ≤ 1000000 := by rw [List.length_take]; omega
      have hswr := hst.only.size
      replace hst := Lib.hid hst
      replace htk := Lib.hid htk
      replace hX := Lib.hid hX
      replace hPP := Lib.hid hPP
      replace hDD := Lib.hid hDD
      replace hRR := Lib.hid hRR
      replace hcX := Lib.hid hcX
      replace hr1 := Lib.hid hr1
      replace hbd := Lib.hid hbd
      replace hsl := Lib.hid hsl
      replace hln := Lib.hid hln
      replace ox := Lib.hid ox
      replace hyY := Lib.hid hyY
      clear hS hBk hNO hTT hUU hQQ hY hrr
      go_wp2_with (first
        | ((with_reducible show wpList _ _ _ (Oper.mk _ (Op.load 93 (.tmp 14)) _ _ _ _ :: _) _ _); (refine wpList_load_mid rfl 93 (.tmp 14) rfl b1 (o1 + k * 76) rfl x.list _ hr1.out huN rfl ix ?_); rw [← hX.out])
        | ((with_reducible show wpList _ _ _ (Oper.mk _ (Op.store 93 (.tmp 5) _) _ _ _ _ :: _) _ _); (refine wpList_store_row rfl 93 (.tmp 5) (.tmp 15) rfl wr.heap.size _ X rfl rfl hz1 iX zX hX1 ?_); intro w3 hU3; have hb3 := Lib.hid (((Below.refl wr.heap.size wr).alloc (Nat.le_refl _) _).trans (hU3.out.below (Nat.le_refl _))); have hst3 := Lib.hid (hst.out.grow liesRI liesRE hb3.out); have c30 := cell_of_block hst3.out.at_ 0; obtain ⟨k0, k1, k72, k73, k74, k75, rP, rR, rD⟩ := hcX.out _ _ hU3.out.here; replace rP := Lib.hid rP; replace rR := Lib.hid rR; replace rD := Lib.hid rD; have hrow := Lib.hid hst3.out.rn; have hyN := Lib.hid (hyY.out w3); have hF0 := Lib.hid (show ∀ k : Nat, (fun _ : Nat => False) k → (fun _ : Nat => False) k from fun _ h => h); have hA0 := Lib.hid (show ∀ k, v.ownBlock = some k → ¬ (fun _ : Nat => False) k from fun _ _ h => h); have hL0 := Lib.hid (show ∀ k, (fun _ : Nat => False) k → k < w3.heap.size from fun _ h => h.elim); have hbs3 : w2.heap.size ≤ w3.heap.size := (by have := hb3.out.size; omega))
        | ((with_reducible show wpList _ _ _ (Oper.mk _ (Op.load 42 (.tmp 22)) _ _ _ _ :: _) _ _); (refine wpList_load_mid rfl 42 (.tmp 22) rfl wr.heap.size 2 rfl x.p.list _ rP.out huP rfl iP ?_); rw [← hPP.out])
        | ((with_reducible show wpList _ _ _ (Oper.mk _ (Op.load 57 (.tmp 24)) _ _ _ _ :: _) _ _); (refine wpList_load_mid rfl 57 (.tmp 24) rfl wr.heap.size 8 rfl (cB x.root) _ rR.out huD rfl iD2 ?_); rw [← hRR.out])
        | ((with_reducible show wpList _ _ _ (Oper.mk _ (Op.load 57 (.tmp 26)) _ _ _ _ :: _) _ _); (refine wpList_load_mid rfl 57 (.tmp 26) rfl wr.heap.size 40 rfl (cB x.file) _ rD.out huD rfl iD ?_); rw [← hDD.out])
        | ((with_reducible show wpList _ _ _ (Oper.mk _ (Op.build 97 _) _ _ _ _ :: _) _ _); refine wpList_buildV rfl 97 [(0, .tmp 19), (1, .tmp 21), (2, .tmp 23), (3, .tmp 25), (4, .tmp 27), (5, .tmp 29), (6, .tmp 31), (7, .tmp 33), (8, .tmp 35)] rfl [(0, .int .i64 NO), (1, .string S), (2, .agg PP), (3, .agg RR), (4, .agg DD), (5, .int .i64 TT), (6, .bool B), (7, .int .i64 UU), (8, .int .i64 QQ)] rfl _ (hbd.out _) ?_)
        | ((with_reducible show wpList _ _ _ (Oper.mk _ (Op.buildSlice _ _ _) _ _ _ _ :: _) _ _); refine wpList_buildS rfl 66 1 [(0, .tmp 36)] rfl [(0, .agg Y)] rfl _ _ (hsl.out _) ?_)
        | (at_builtin; refine wpList_appRows (P := Tryd.prog) (R := RI) (e := 97) (size := 76) (base := w2.heap.size) (F := fun _ => False) (F' := fun _ => False) rfl liesRI (.tmp 17) (.tmp 37) 66 rfl Tryd.underlying66 168 hinfoN.out (by decide) rfl hrow (x) Y hyN hF0 hA0 hL0 rfl hln.out (by decide) hbs3 ?_; intro v5 w5 hr5 hO5 hM5; obtain ⟨a5, n5, c5, hv5⟩ : ∃ a n c, v5 = .slice a n c := (by obtain ⟨a, c, e, _⟩ := hr5.out.form; exact ⟨a, _, c, e⟩); subst hv5; have h5 := hO5.out.heap hst3.out.at_ (fun e => by have := (hst3.out.rn.ownLt _ e).1; omega); have c35 := cell_of_block h5 0; have f35 := free_of_block h5 0; have hU6 := Lib.hid ((Upd.refl h5).setCell (j := 0) (.slice a5 n5 c5)); have hst6 := Lib.hid (hst3.out.appN liesRI liesRE hr5.out hO5.out hM5.out hU6.out); replace h5 := Lib.hid h5))
      refine hback.out _ _ (by kernel_rfl) ?_ ?_
      · simp only [List.getD_cons_zero, List.getD_cons_succ]
        exact ⟨k + 1, by omega, by go_num, .slice a5 n5 c5, by rw [htk.out]; exact hst6.out⟩
      · have h12 := h12.out
        simp only [List.getD_cons_zero, List.getD_cons_succ, h12, intOf]
        omega
    · obtain rfl : k = N := by omega
      rw [show ML.take k = ML from List.take_of_length_le (by rw [hMLl.out]; exact Nat.le_refl _)] at hst
      have hrr : RowAt En.list 7 wr av m.ens := fun j hj => by
        obtain ⟨b, o, e, h⟩ := hVw.out j hj
        exact ⟨b, o, e, rangeAt_below h (B := n0) ((show Below n0 w w2 by rw [hn0.out]; exact hB.out).trans (hbw.out wr hst.only).2) (by rw [hn0.out]; exact Nat.le_refl _)⟩
      have e11r := ((hbw.out wr hst.only).1 ⟨n0, 1, none⟩ (World.block_lt_of_cell? w2 _ e11) (by simp)).trans e11
      have a2r := (hst.only.block _ (block_lt a2.out) (by omega)).trans a2.out
      have hswr := hst.only.size
      replace hst := Lib.hid hst
      replace a2r := Lib.hid a2r
      go_wp2_with fail
      refine wp_loopF [(false, 7), (true, 1), (false, 36), (true, 11), (false, 1)] _ [] (fun U2 w5 => ∃ j : Nat, j ≤ V ∧ U2 44 = .int .i64 (j : Nat) ∧ ∃ v', OfG RI RE 76 7 97 98 69 (n0 + 2) w2 w5 v v' ML (ME.take j)) (fun U2 _ => V - (intOf (U2 44)).toNat) ?_ ?_
      · simp only [List.getD_cons_zero, List.getD_cons_succ]
        exact ⟨0, Nat.zero_le _, rfl, _, hst.out⟩
      · clear hrr hst hback a2r e11r
        intro U2 w5 hrel KK2 hback2 l2 hl2
        obtain ⟨j, hj, h34, v', hst⟩ := hrel
        simp only [fillS, popSeg, cond_true, cond_false, Nat.reduceAdd, h34] at hl2
        subst hl2
        replace h34 := Lib.hid h34
        by_cases hlt2 : j < V
        · have hlt3 : (j : Int) < (V : Int) := by omega
          have hkV : j < m.ens.length := by rw [← hVl.out]; exact hlt2
          have hrr : RowAt En.list 7 w5 av m.ens := fun j hj => by
            obtain ⟨b, o, e, h⟩ := hVw.out j hj
            exact ⟨b, o, e, rangeAt_below h (B := n0) ((show Below n0 w w2 by rw [hn0.out]; exact hB.out).trans (hbw.out w5 hst.only).2) (by rw [hn0.out]; exact Nat.le_refl _)⟩
          obtain ⟨b1, o1, rfl, hr1⟩ := hrr j hkV
          have ox := okV.out _ (List.getElem_mem hkV)
          have hkE : j < ME.length := by rw [hMEl.out]; exact hlt2
          have hge : ME[j] = m.ens[j] := by simp [hME.out]
          have htk : ME.take (j + 1) = ME.take j ++ [m.ens[j]] := by rw [List.take_succ_eq_append_getElem hkE, hge]
          clear hge
          generalize m.ens[j] = x at *
          obtain ⟨xid, xo, xw, xi, xt, xv, xa⟩ := x
          skip
          have d0 := hr1 0 _ rfl
          have d1 := hr1 1 _ rfl
          have d2 := hr1 2 _ rfl
          have d3 := hr1 3 _ rfl
          have d4 := hr1 4 _ rfl
          have d5 := hr1 5 _ rfl
          have d6 := hr1 6 _ rfl
          simp only [Nat.add_zero] at d0 d1 d2 d3 d4 d5 d6
          have hln : (ME.take j).length ≤ 1000000 := by rw [List.length_take]; omega
          have hsw5 := hst.only.size
          have hsl := fun W => slice_one (P := Tryd.prog) (t := 67) Tryd.underlying67 infoEnR (by decide) (by decide) #[.int .i64 xid, .int .i64 xo, .int .i64 xw, .int .i64 xi, .int .i64 xt, .int .i64 xv, .int .i64 xa] rfl W
          have hb6 : Below w5.heap.size w5 (w5.alloc (.cells #[.int .i64 xid, .int .i64 xo, .int .i64 xw, .int .i64 xi, .int .i64 xt, .int .i64 xv, .int .i64 xa] 95)) := (Below.refl _ _).alloc (Nat.le_refl _) _
          have hst6 := hst.grow liesRI liesRE hb6
          have hn6 := heap_alloc_new w5 (.cells #[.int .i64 xid, .int .i64 xo, .int .i64 xw, .int .i64 xi, .int .i64 xt, .int .i64 xv, .int .i64 xa] 95 (0, 0))
          have hs6 := hb6.size
          have hbs6 : w2.heap.size ≤ (w5.alloc (.cells #[.int .i64 xid, .int .i64 xo, .int .i64 xw, .int .i64 xi, .int .i64 xt, .int .i64 xv, .int .i64 xa] 95)).heap.size := by omega
          have hrow := Lib.hid hst6.rv
          have hyN := Lib.hid (show RE (w5.alloc (.cells #[.int .i64 xid, .int .i64 xo, .int .i64 xw, .int .i64 xi, .int .i64 xt, .int .i64 xv, .int .i64 xa] 95)) (fun _ => False) ⟨xid, xo, xw, xi, xt, xv, xa⟩ (#[.int .i64 xid, .int .i64 xo, .int .i64 xw, .int .i64 xi, .int .i64 xt, .int .i64 xv, .int .i64 xa] : Array Value).toList from ⟨rfl, ox⟩)
          have hF0 := Lib.hid (show ∀ k : Nat, (fun _ : Nat => False) k → (fun _ : Nat => False) k from fun _ h => h)
          have hA0 := Lib.hid (show ∀ k, v'.ownBlock = some k → ¬ (fun _ : Nat => False) k from fun _ _ h => h)
          have hL0 := Lib.hid (show ∀ k, (fun _ : Nat => False) k → k < (w5.alloc (.cells #[.int .i64 xid, .int .i64 xo, .int .i64 xw, .int .i64 xi, .int .i64 xt, .int .i64 xv, .int .i64 xa] 95)).heap.size from fun _ h => h.elim)
          have c30 := cell_of_block hst6.at_ 1
          replace hst6 := Lib.hid hst6
          replace hst := Lib.hid hst
          replace htk := Lib.hid htk
          replace hln := Lib.hid hln
          replace hsl := Lib.hid hsl
          replace ox := Lib.hid ox
          replace hn6 := Lib.hid hn6
          replace hb6 := Lib.hid hb6
          clear hr1 hrr
          go_wp2_with (first
            | (refine wpList_buildS rfl 67 1 [(0, .tmp 50)] rfl [(0, .agg #[.int .i64 xid, .int .i64 xo, .int .i64 xw, .int .i64 xi, .int .i64 xt, .int .i64 xv, .int .i64 xa])] rfl _ _ (hsl.out _) ?_)
            | (at_builtin; refine wpList_appRows (P := Tryd.prog) (R := RE) (e := 98) (size := 7) (base := w2.heap.size) (F := fun _ => False) (F' := fun _ => False) rfl liesRE (.tmp 49) (.tmp 51) 67 rfl Tryd.underlying67 56 hinfoV.out (by decide) rfl hrow ⟨xid, xo, xw, xi, xt, xv, xa⟩ #[.int .i64 xid, .int .i64 xo, .int .i64 xw, .int .i64 xi, .int .i64 xt, .int .i64 xv, .int .i64 xa] hyN hF0 hA0 hL0 rfl hln.out (by decide) hbs6 ?_; intro v8 w8 hr8 hO8 hM8; obtain ⟨a8, n8, c8, hv8⟩ : ∃ a n c, v8 = .slice a n c := (by obtain ⟨a, c, e, _⟩ := hr8.out.form; exact ⟨a, _, c, e⟩); subst hv8; have h8 := hO8.out.heap hst6.out.at_ (fun e => by have := (hst6.out.rv.ownLt _ e).1; omega); have c38 := cell_of_block h8 1; have f38 := free_of_block h8 1; have hU9 := Lib.hid ((Upd.refl h8).setCell (j := 1) (.slice a8 n8 c8)); have hst9 := Lib.hid (hst6.out.appV liesRI liesRE hr8.out hO8.out hM8.out hU9.out); replace h8 := Lib.hid h8))
          refine hback2.out _ _ (by kernel_rfl) ?_ ?_
          · simp only [List.getD_cons_zero, List.getD_cons_succ]
            exact ⟨j + 1, by omega, by go_num, .slice a8 n8 c8, by rw [htk.out]; exact hst9.out⟩
          · have h34 := h34.out
            simp only [List.getD_cons_zero, List.getD_cons_succ, h34, intOf]
            omega
        · obtain rfl : j = V := by omega
          rw [show ME.take j = ME from List.take_of_length_le (by rw [hMEl.out]; exact Nat.le_refl _)] at hst
          have a25 := (hst.only.block _ (block_lt a2.out) (by omega)).trans a2.out
          obtain ⟨vN, vlN, vcN, rfl⟩ : ∃ a n c, v = .slice a n c := by obtain ⟨a, c, e, _⟩ := hst.rn.form; exact ⟨a, _, c, e⟩
          obtain ⟨vV, vlV, vcV, rfl⟩ : ∃ a n c, v' = .slice a n c := by obtain ⟨a, c, e, _⟩ := hst.rv.form; exact ⟨a, _, c, e⟩
          have hat := Lib.hid hst.at_
          have huM : Tryd.prog.underlying 69 = _ := Tryd.underlying69
          have iM : (Tryd.prog.info? 69).map (·.size) = some (#[.slice vN vlN vcN, .slice vV vlV vcV] : Array Value).size := by kernel_rfl
          have h1M : (#[.slice vN vlN vcN, .slice vV vlV vcV] : Array Value).all (·.oneCell') = true := by simp [Value.oneCell']
          replace a25 : Hid (w5.heap[n0 + 1]? = some (.cells #[.slice none 0 0, .slice none 0 0] 69 (0, 0))) := Lib.hid a25
          replace hst := Lib.hid hst
          go_wp2_with (first
            | (refine wpList_load_row rfl 69 (.tmp 3) rfl (n0 + 1 + 1) #[.slice vN vlN vcN, .slice vV vlV vcV] _ rfl hat huM rfl iM ?_)
            | (refine wpList_store_row rfl 69 (.tmp 2) (.tmp 55) rfl (n0 + 1) #[.slice none 0 0, .slice none 0 0] #[.slice vN vlN vcN, .slice vV vlV vcV] rfl rfl a25 iM rfl h1M ?_; intro w9 hU9))
          refine ret_cell_row (c := #[.slice vN vlN vcN, .slice vV vlV vcV]) rfl rfl huM rfl iM hU9.out.here ?_
          have hO9 : Only (fun k => k = n0 + 1) w5 w9 := Only.ofUpd hU9.out rfl
          have hln := hst.out.lt
          have hh1 := hst.out.only.below (B := n0) (by omega) (fun k e => by omega)
          have hh2 := hO9.below (B := n0) (by have := hh1.size; omega) (fun k e => by omega)
          refine hpost.out _ _ _ ?_ ?_ ?_
          · exact (hst.out.rn.only liesRI hO9 (fun k hk => hk.elim) (fun k hk e => by have := (hst.out.rn.ownLt k hk).1; omega)).mono (by rw [← hn0.out]; omega)
          · exact (hst.out.rv.only liesRE hO9 (fun k hk => hk.elim) (fun k hk e => by have := (hst.out.rv.ownLt k hk).1; omega)).mono (by rw [← hn0.out]; omega)
          · exact (hB.out.trans (hn0.out ▸ hh1)).trans (hn0.out ▸ hh2)

end Go.Proofs.YtpehdoepcpmnbaaDoor
