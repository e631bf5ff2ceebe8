/- The walk over baileelaw34.Of: a model as the document's. -/
import Derived.Test.YtndgacjfkoliaaaDoorF5PlaysSaid34
import Derived.Test.YtndgacjfkoliaaaDoorBuildG
import Derived.Test.YtndgacjfkoliaaaDoorF4PlaysSaid34
namespace Go.Proofs.YtndgacjfkoliaaaDoor
open Go.RowKit
set_option linter.unusedSimpArgs false
set_option linter.unusedVariables false

theorem rangeAt_sub {w : World} {b : Nat} {C : Array Value} {t : TypeId} {fz : Nat × Nat} (hb : w.heap[b]? = some (.cells C t fz)) {o n : Nat} {B : List Value} (h : (C.toList.drop o).take n = B) : w.rangeAt b o B := fun j v hv => by
  rw [cell_of_block hb]
  rw [← h, List.getElem?_take] at hv
  split at hv
  · rw [List.getElem?_drop, Array.getElem?_toList] at hv
    exact hv
  · cases hv
def nmV (x : Nm) : List Value := [.string x.s, .agg x.p.list.toArray, .agg (cB x.f).toArray, .bool x.k]
theorem nmV_flat (x : Nm) : (nmV x).flatMap (·.cells.toList) = x.list := by simp [nmV, Value.cells, Nm.list]
theorem build_nmR (x : Nm) (hx : x.f.length = 32) (W : World) : (Instr.build 67 #[(0, .string x.s), (1, .agg x.p.list.toArray), (2, .agg (cB x.f).toArray), (3, .bool x.k)]).run Tryd.prog W = .ok (.agg x.list.toArray) W := by
  refine run_build W _ _ _ ?_
  rw [← nmV_flat]
  exact built_struct (P := Tryd.prog) (t := 67) (n := 40) (places := [(0, 1), (1, 6), (7, 32), (39, 1)]) (by kernel_rfl) Tryd.underlying67 (by kernel_rfl) (nmV x) (by simp [placed, nmV, Value.cells, P6.list_length, cB_length, hx]) (by simp [nmV, Value.cells, P6.list_length, cB_length, hx])
theorem build_nmG (x : Nm) (hx : x.f.length = 32) (W : World) : (Instr.build 69 #[(0, .string x.s), (1, .agg x.p.list.toArray), (2, .agg (cB x.f).toArray), (3, .bool x.k)]).run Tryd.prog W = .ok (.agg x.list.toArray) W := by
  refine run_build W _ _ _ ?_
  rw [← nmV_flat]
  exact built_struct (P := Tryd.prog) (t := 69) (n := 40) (places := [(0, 1), (1, 6), (7, 32), (39, 1)]) (by kernel_rfl) Tryd.underlying69 (by kernel_rfl) (nmV x) (by simp [placed, nmV, Value.cells, P6.list_length, cB_length, hx]) (by simp [nmV, Value.cells, P6.list_length, cB_length, hx])
theorem infoNmR : (Tryd.prog.info? 67).map (fun i => (i.zero.map (·.cells.size), i.size, i.bytes)) = some (some 40, 40, 104) := by kernel_rfl
theorem infoNmG : (Tryd.prog.info? 69).map (fun i => (i.zero.map (·.cells.size), i.size, i.bytes)) = some (some 40, 40, 104) := by kernel_rfl
theorem infoVdR : (Tryd.prog.info? 46).map (fun i => (i.zero.map (·.cells.size), i.size, i.bytes)) = some (some 3, 3, 24) := by kernel_rfl
theorem infoVdG : (Tryd.prog.info? 70).map (fun i => (i.zero.map (·.cells.size), i.size, i.bytes)) = some (some 3, 3, 24) := by kernel_rfl

/-- Two rows of their own whose slices lie in one struct (block b), all of them made since w but the struct. -/
structure OfSt (eN eV T : TypeId) (b : Nat) (w wr : World) (v v' : Value) (xs : List Nm) (ys : List Vd) : Prop where
  at_ : wr.heap[b]? = some (.cells #[v, v'] T (0, 0))
  rn : RowsOf RN eN 40 w.heap.size wr (fun _ => False) v xs
  rv : RowsOf RV eV 3 w.heap.size wr (fun _ => False) v' ys
  ap : ∀ k, v.ownBlock = some k → v'.ownBlock ≠ some k
  only : Only (fun k => k = b) w wr
  lt : b < w.heap.size
theorem OfSt.grow {eN eV T : TypeId} {b : Nat} {w wr w1 : World} {v v' : Value} {xs : List Nm} {ys : List Vd} (h : OfSt eN eV T b w wr v v' xs ys) (hb : Below wr.heap.size wr w1) : OfSt eN eV T b w w1 v v' xs ys :=
  ⟨(hb.block _ (block_lt h.at_)).trans h.at_, h.rn.below liesRN hb, h.rv.below liesRV hb, h.ap, h.only.trans (Only.ofBelow (D := fun k => k = b) hb) (fun _ _ e => e), h.lt⟩
theorem OfSt.appN {eN eV T : TypeId} {b : Nat} {w wr w1 w2 : World} {v v' v1 : Value} {xs : List Nm} {ys : List Vd} {x : Nm} (h : OfSt eN eV T b w wr v v' xs ys) (hr : RowsOf RN eN 40 w.heap.size w1 (fun _ => False) v1 (xs ++ [x])) (hO : Only (fun k => v.ownBlock = some k) wr w1) (hM : Moved wr v v1) (hU : Upd b (.cells #[v1, v'] T (0, 0)) w1 w2) : OfSt eN eV T b w w2 v1 v' (xs ++ [x]) ys := by
  have hl := h.lt
  have hO2 : Only (fun k => k = b) w1 w2 := Only.ofUpd hU rfl
  have hs := h.only.size
  refine ⟨hU.here, hr.only liesRN hO2 (fun k hk => hk.elim) (fun k hk e => by have := (hr.ownLt k hk).1; omega), (h.rv.only liesRV hO (fun k hk => hk.elim) (fun k hk e => h.ap k e hk)).only liesRV hO2 (fun k hk => hk.elim) (fun k hk e => by have := (h.rv.ownLt k hk).1; omega), fun k hk hk2 => ?_, (h.only.trans hO (fun k hk e => by have := (h.rn.ownLt k e).1; omega)).trans hO2 (fun _ _ e => e), hl⟩
  rcases hM k hk with h1 | h1
  · exact h.ap k h1 hk2
  · have := (h.rv.ownLt k hk2).2; omega
theorem OfSt.appV {eN eV T : TypeId} {b : Nat} {w wr w1 w2 : World} {v v' v1 : Value} {xs : List Nm} {ys : List Vd} {x : Vd} (h : OfSt eN eV T b w wr v v' xs ys) (hr : RowsOf RV eV 3 w.heap.size w1 (fun _ => False) v1 (ys ++ [x])) (hO : Only (fun k => v'.ownBlock = some k) wr w1) (hM : Moved wr v' v1) (hU : Upd b (.cells #[v, v1] T (0, 0)) w1 w2) : OfSt eN eV T b w w2 v v1 xs (ys ++ [x]) := by
  have hl := h.lt
  have hO2 : Only (fun k => k = b) w1 w2 := Only.ofUpd hU rfl
  have hs := h.only.size
  refine ⟨hU.here, (h.rn.only liesRN hO (fun k hk => hk.elim) (fun k hk e => h.ap k hk e)).only liesRN hO2 (fun k hk => hk.elim) (fun k hk e => by have := (h.rn.ownLt k hk).1; omega), hr.only liesRV hO2 (fun k hk => hk.elim) (fun k hk e => by have := (hr.ownLt k hk).1; omega), fun k hk hk2 => ?_, (h.only.trans hO (fun k hk e => by have := (h.rv.ownLt k e).1; omega)).trans hO2 (fun _ _ e => e), hl⟩
  rcases hM k hk2 with h1 | h1
  · exact h.ap k hk h1
  · have := (h.rn.ownLt k hk).2; omega
def Of34Post (w : World) (m : Md) (x : Ending) (w' : World) : Prop :=
  ∃ v v', x = .returned (.agg #[v, v']) ∧ RowsOf RN 67 40 w.heap.size w' (fun _ => False) v m.ns ∧ RowsOf RV 46 3 w.heap.size w' (fun _ => False) v' m.vs ∧ Below w.heap.size w w'

set_option maxRecDepth 100000 in
set_option maxHeartbeats 1000000 in
theorem of34_any (va : Value) (m : Md) (w : World) (ha : ArgM w va m) (l1 : m.ns.length ≤ 1000) (l2 : m.vs.length ≤ 1000) :
    Calls Tryd.prog 8 #[va] w (Of34Post w m) := by
  obtain ⟨⟨an, cn, av, cv, rfl, hN, hN1, hN2, hV, hV1, hV2⟩, okN, okV⟩ := ha
  have zr := zNm_run
  have zn := zNm_ne
  have huN : Tryd.prog.underlying 69 = _ := Tryd.underlying69
  have huP : Tryd.prog.underlying 34 = _ := Tryd.underlying34
  have huD : Tryd.prog.underlying 53 = _ := Tryd.underlying53
  have hinfoN := Lib.hid infoNmR
  have hinfoV := Lib.hid infoVdR
  obtain ⟨N, hNl⟩ : ∃ N, N = m.ns.length := ⟨_, rfl⟩
  obtain ⟨V, hVl⟩ : ∃ V, V = m.vs.length := ⟨_, rfl⟩
  rw [← hNl, ← hVl]
  rw [← hNl] at l1
  rw [← hVl] at l2
  clear hN1 hN2 hV1 hV2
  have hB : Below w.heap.size w ((((w.alloc (.cells #[.slice an N cn, .slice av V cv] 28)).alloc (.cells #[.slice none 0 0, .slice none 0 0] 32))).alloc (.cells #[.slice none 0 0, .slice none 0 0] 32)) := (((Below.refl _ _).alloc (Nat.le_refl _) _).alloc (by simp) _).alloc (by simp; omega) _
  obtain ⟨w2, hw2⟩ : ∃ w2, w2 = (((w.alloc (.cells #[.slice an N cn, .slice av V cv] 28)).alloc (.cells #[.slice none 0 0, .slice none 0 0] 32))).alloc (.cells #[.slice none 0 0, .slice none 0 0] 32) := ⟨_, rfl⟩
  have e10 : w2.cell? ⟨w.heap.size, 0, none⟩ = some (.slice an N cn) := by rw [hw2]; exact cellAfter (cellAfter (cell_of_block (heap_alloc_new w _) 0) _) _
  have e11 : w2.cell? ⟨w.heap.size, 1, none⟩ = some (.slice av V cv) := by rw [hw2]; exact cellAfter (cellAfter (cell_of_block (heap_alloc_new w _) 1) _) _
  have hsz2 : w2.heap.size = w.heap.size + 3 := by rw [hw2]; simp
  have a2 : w2.heap[w.heap.size + 1]? = some (.cells #[.slice none 0 0, .slice none 0 0] 32 (0, 0)) := by
    have h1 := heap_alloc_new (w.alloc (.cells #[.slice an N cn, .slice av V cv] 28)) (.cells #[.slice none 0 0, .slice none 0 0] 32 (0, 0))
    rw [World.size_alloc] at h1
    rw [hw2]
    exact (((Below.refl _ _).alloc (Nat.le_refl _) _).block _ (block_lt h1)).trans h1
  have a3 : w2.heap[w.heap.size + 2]? = some (.cells #[.slice none 0 0, .slice none 0 0] 32 (0, 0)) := by
    have h1 := heap_alloc_new ((w.alloc (.cells #[.slice an N cn, .slice av V cv] 28)).alloc (.cells #[.slice none 0 0, .slice none 0 0] 32)) (.cells #[.slice none 0 0, .slice none 0 0] 32 (0, 0))
    rw [World.size_alloc, World.size_alloc] at h1
    rw [hw2]
    exact h1
  rw [← hw2] at hB
  have hst0 : OfSt 67 46 32 (w.heap.size + 2) w2 w2 (.slice none 0 0) (.slice none 0 0) [] [] :=
    ⟨a3, RowsOf.nil _ _, RowsOf.nil _ _, (fun k e => by cases e), Only.refl _ _, by omega⟩
  have hNw := Lib.hid hN
  have hVw := Lib.hid hV
  clear hN hV
  obtain ⟨n0, hn0⟩ : ∃ n0, n0 = w.heap.size := ⟨_, rfl⟩
  replace hw2 := Lib.hid hw2
  replace okN := Lib.hid okN
  replace okV := Lib.hid okV
  replace hNl := Lib.hid hNl
  replace hVl := Lib.hid hVl
  replace hst0 := Lib.hid hst0
  replace a2 := Lib.hid a2
  replace hB := Lib.hid hB
  clear a3
  go_enter Tryd.func8, Tryd.ntmps8
  go_wp2_with fail
  rw [← hw2.out]
  rw [← hn0] at e10 e11 a2 hst0 hsz2 ⊢
  replace hn0 := Lib.hid hn0
  clear hw2
  have hbw : ∀ wr, Only (fun k => k = n0 + 2) w2 wr → (∀ x, x.block < w2.heap.size → x.block ≠ n0 + 2 → wr.cell? x = w2.cell? x) ∧ Below n0 w2 wr := fun wr hO => ⟨fun x hx hne => World.cell?_of_block (a := x) (hO.block _ hx hne), hO.below (by omega) (fun k e => by omega)⟩
  replace hbw := Lib.hid hbw
  refine wp_loopF [(false, 5), (true, 1), (false, 6), (true, 19), (false, 15)] _ [] (fun U wr => ∃ k : Nat, k ≤ N ∧ U 12 = .int .i64 (k : Nat) ∧ ∃ v, OfSt 67 46 32 (n0 + 2) w2 wr v (.slice none 0 0) (m.ns.take k) []) (fun U _ => N - (intOf (U 12)).toNat) ?_ ?_
  · simp only [List.getD_cons_zero, List.getD_cons_succ]
    exact ⟨0, Nat.zero_le _, rfl, _, hst0.out⟩
  · clear hst0
    intro U wr hrel KK hback l' hl'
    obtain ⟨k, hk, h12, v, hst⟩ := hrel
    simp only [fillS, popSeg, cond_true, cond_false, Nat.reduceAdd, h12] at hl'
    subst hl'
    replace h12 := Lib.hid h12
    by_cases hlt : k < N
    · have hlt2 : (k : Int) < (N : Int) := by omega
      have hkN : k < m.ns.length := by rw [← hNl.out]; exact hlt
      have hrr : RowAt Nm.list 40 wr an m.ns := fun j hj => by
        obtain ⟨b, o, e, h⟩ := hNw.out j hj
        exact ⟨b, o, e, rangeAt_below h (B := n0) ((show Below n0 w w2 by rw [hn0.out]; exact hB.out).trans (hbw.out wr hst.only).2) (by rw [hn0.out]; exact Nat.le_refl _)⟩
      obtain ⟨b1, o1, rfl, hr1⟩ := hrr k hkN
      have ox := okN.out _ (List.getElem_mem hkN)
      have htk : m.ns.take (k + 1) = m.ns.take k ++ [m.ns[k]] := List.take_succ_eq_append_getElem hkN
      generalize m.ns[k] = x at *
      obtain ⟨X, hX⟩ : ∃ X, X = x.list.toArray := ⟨_, rfl⟩
      have hXs : X.size = 40 := by rw [hX, Nm.size ox.f]
      have hX1 : X.all (·.oneCell') = true := by rw [hX]; exact x.all_one
      have iX : (Tryd.prog.info? 69).map (·.size) = some X.size := by rw [hXs]; exact infoNm
      have ix : (Tryd.prog.info? 69).map (·.size) = some x.list.length := by rw [Nm.list_length ox.f]; exact infoNm
      have iP : (Tryd.prog.info? 34).map (·.size) = some x.p.list.length := by kernel_rfl
      have iD : (Tryd.prog.info? 53).map (·.size) = some (cB x.f).length := by rw [cB_length, ox.f]; kernel_rfl
      have zX : zNm.size = X.size := by rw [hXs]; exact zNm_size
      have hbd := fun W => build_nmR x ox.f W
      obtain ⟨S, hS⟩ : ∃ S, S = x.s := ⟨_, rfl⟩
      obtain ⟨B, hBk⟩ : ∃ B, B = x.k := ⟨_, rfl⟩
      obtain ⟨PP, hPP⟩ : ∃ PP, PP = x.p.list.toArray := ⟨_, rfl⟩
      obtain ⟨DD, hDD⟩ : ∃ DD, DD = (cB x.f).toArray := ⟨_, rfl⟩
      rw [← hS, ← hBk, ← hPP, ← hDD, ← hX] at hbd
      have hsl := fun W => slice_one (P := Tryd.prog) (t := 29) Tryd.underlying29 infoNmR (by decide) (by decide) X hXs W
      have hX0 : X[0]? = some (.string S) := by rw [hX, hS]; rfl
      have hX39 : X[39]? = some (.bool B) := by rw [hX, hBk]; simpa using Nm.c39 ox.f
      have hXP : (X.toList.drop 1).take 6 = x.p.list := by rw [hX]; exact x.sub_p
      have hXD : (X.toList.drop 7).take 32 = cB x.f := by rw [hX]; exact Nm.sub_f ox.f
      have hXL : X.toList = x.list := by rw [hX]
      have hz1 : Hid ((wr.alloc (.cells zNm 69)).heap[wr.heap.size]? = some (.cells zNm 69 (0, 0))) := heap_alloc_new wr (.cells zNm 69 (0, 0))
      have hln : (m.ns.take k).length ≤ 1000000 := by rw [List.length_take]; omega
      have hswr := hst.only.size
      replace hst := Lib.hid hst
      replace htk := Lib.hid htk
      replace hX := Lib.hid hX
      replace hS := Lib.hid hS
      replace hBk := Lib.hid hBk
      replace hPP := Lib.hid hPP
      replace hDD := Lib.hid hDD
      replace hX0 := Lib.hid hX0
      replace hX39 := Lib.hid hX39
      replace hXP := Lib.hid hXP
      replace hXD := Lib.hid hXD
      replace hXL := Lib.hid hXL
      replace hr1 := Lib.hid hr1
      replace hbd := Lib.hid hbd
      replace hsl := Lib.hid hsl
      replace hln := Lib.hid hln
      replace ox := Lib.hid ox
      go_wp2_with (first
        | (refine wpList_load_mid rfl 69 (.tmp 14) rfl b1 (o1 + k * 40) rfl x.list _ hr1.out huN rfl ix ?_; rw [← hX.out])
        | (refine wpList_store_row rfl 69 (.tmp 5) (.tmp 15) rfl wr.heap.size zNm X rfl rfl hz1 iX zX hX1 ?_; intro w3 hU3; have hb3 := Lib.hid (((Below.refl wr.heap.size wr).alloc (Nat.le_refl _) _).trans (hU3.out.below (Nat.le_refl _))); have hst3 := Lib.hid (hst.out.grow hb3.out); have c30 := cell_of_block hst3.out.at_ 0; have k0 := (cell_of_block hU3.out.here 0).trans hX0.out; have k39 := (cell_of_block hU3.out.here 39).trans hX39.out; have rP := Lib.hid (rangeAt_sub hU3.out.here hXP.out); have rD := Lib.hid (rangeAt_sub hU3.out.here hXD.out); have hrow := Lib.hid hst3.out.rn; have hyN := Lib.hid (show RN w3 (fun _ => False) x X.toList from ⟨hXL.out, ox.out⟩); have hF0 := Lib.hid (show ∀ k : Nat, (fun _ : Nat => False) k → (fun _ : Nat => False) k from fun _ h => h); have hA0 := Lib.hid (show ∀ k, v.ownBlock = some k → ¬ (fun _ : Nat => False) k from fun _ _ h => h); have hL0 := Lib.hid (show ∀ k, (fun _ : Nat => False) k → k < w3.heap.size from fun _ h => h.elim); have hbs3 : w2.heap.size ≤ w3.heap.size := (by have := hb3.out.size; omega))
        | (refine wpList_load_mid rfl 34 (.tmp 20) rfl wr.heap.size 1 rfl x.p.list _ rP.out huP rfl iP ?_; rw [← hPP.out])
        | (refine wpList_load_mid rfl 53 (.tmp 22) rfl wr.heap.size 7 rfl (cB x.f) _ rD.out huD rfl iD ?_; rw [← hDD.out])
        | (refine wpList_buildV rfl 67 [(0, .tmp 19), (1, .tmp 21), (2, .tmp 23), (3, .tmp 25)] rfl [(0, .string S), (1, .agg PP), (2, .agg DD), (3, .bool B)] rfl _ (hbd.out _) ?_)
        | (refine wpList_buildS rfl 29 1 [(0, .tmp 26)] rfl [(0, .agg X)] rfl _ _ (hsl.out _) ?_)
        | (at_builtin; refine wpList_appRows (P := Tryd.prog) (R := RN) (e := 67) (size := 40) (base := w2.heap.size) (F := fun _ => False) (F' := fun _ => False) rfl liesRN (.tmp 17) (.tmp 27) 29 rfl Tryd.underlying29 104 hinfoN.out (by decide) rfl hrow x X hyN hF0 hA0 hL0 rfl hln.out (by decide) hbs3 ?_; intro v5 w5 hr5 hO5 hM5; obtain ⟨a5, n5, c5, hv5⟩ : ∃ a n c, v5 = .slice a n c := (by obtain ⟨a, c, e, _⟩ := hr5.out.form; exact ⟨a, _, c, e⟩); subst hv5; have h5 := hO5.out.heap hst3.out.at_ (fun e => by have := (hst3.out.rn.ownLt _ e).1; omega); have c35 := cell_of_block h5 0; have f35 := free_of_block h5 0; have hU6 := Lib.hid ((Upd.refl h5).setCell (j := 0) (.slice a5 n5 c5)); have hst6 := Lib.hid (hst3.out.appN hr5.out hO5.out hM5.out hU6.out); replace h5 := Lib.hid h5))
      refine hback.out _ _ (by kernel_rfl) ?_ ?_
      · simp only [List.getD_cons_zero, List.getD_cons_succ]
        exact ⟨k + 1, by omega, by go_num, .slice a5 n5 c5, by rw [htk.out]; exact hst6.out⟩
      · have h12 := h12.out
        simp only [List.getD_cons_zero, List.getD_cons_succ, h12, intOf]
        omega
    · obtain rfl : k = N := by omega
      rw [show m.ns.take k = m.ns by rw [hNl.out]; exact List.take_length] at hst
      have hrr : RowAt Vd.list 3 wr av m.vs := fun j hj => by
        obtain ⟨b, o, e, h⟩ := hVw.out j hj
        exact ⟨b, o, e, rangeAt_below h (B := n0) ((show Below n0 w w2 by rw [hn0.out]; exact hB.out).trans (hbw.out wr hst.only).2) (by rw [hn0.out]; exact Nat.le_refl _)⟩
      have e11r := ((hbw.out wr hst.only).1 ⟨n0, 1, none⟩ (World.block_lt_of_cell? w2 _ e11) (by simp)).trans e11
      have a2r := (hst.only.block _ (block_lt a2.out) (by omega)).trans a2.out
      have hswr := hst.only.size
      replace hst := Lib.hid hst
      replace a2r := Lib.hid a2r
      go_wp2_with fail
      refine wp_loopF [(false, 7), (true, 1), (false, 26), (true, 11), (false, 1)] _ [] (fun U2 w5 => ∃ j : Nat, j ≤ V ∧ U2 34 = .int .i64 (j : Nat) ∧ ∃ v', OfSt 67 46 32 (n0 + 2) w2 w5 v v' m.ns (m.vs.take j)) (fun U2 _ => V - (intOf (U2 34)).toNat) ?_ ?_
      · simp only [List.getD_cons_zero, List.getD_cons_succ]
        exact ⟨0, Nat.zero_le _, rfl, _, hst.out⟩
      · clear hrr hst hback a2r e11r
        intro U2 w5 hrel KK2 hback2 l2 hl2
        obtain ⟨j, hj, h34, v', hst⟩ := hrel
        simp only [fillS, popSeg, cond_true, cond_false, Nat.reduceAdd, h34] at hl2
        subst hl2
        replace h34 := Lib.hid h34
        by_cases hlt2 : j < V
        · have hlt3 : (j : Int) < (V : Int) := by omega
          have hkV : j < m.vs.length := by rw [← hVl.out]; exact hlt2
          have hrr : RowAt Vd.list 3 w5 av m.vs := fun j hj => by
            obtain ⟨b, o, e, h⟩ := hVw.out j hj
            exact ⟨b, o, e, rangeAt_below h (B := n0) ((show Below n0 w w2 by rw [hn0.out]; exact hB.out).trans (hbw.out w5 hst.only).2) (by rw [hn0.out]; exact Nat.le_refl _)⟩
          obtain ⟨b1, o1, rfl, hr1⟩ := hrr j hkV
          have ox := okV.out _ (List.getElem_mem hkV)
          have htk : m.vs.take (j + 1) = m.vs.take j ++ [m.vs[j]] := List.take_succ_eq_append_getElem hkV
          generalize m.vs[j] = x at *
          obtain ⟨xo, xw, xv⟩ := x
          have d0 := hr1 0 _ rfl
          have d1 := hr1 1 _ rfl
          have d2 := hr1 2 _ rfl
          simp only [Nat.add_zero] at d0 d1 d2
          have hln : (m.vs.take j).length ≤ 1000000 := by rw [List.length_take]; omega
          have hsw5 := hst.only.size
          have hsl := fun W => slice_one (P := Tryd.prog) (t := 30) Tryd.underlying30 infoVdR (by decide) (by decide) #[.int .i64 xo, .int .i64 xw, .int .i64 xv] rfl W
          have hb6 : Below w5.heap.size w5 (w5.alloc (.cells #[.int .i64 xo, .int .i64 xw, .int .i64 xv] 70)) := (Below.refl _ _).alloc (Nat.le_refl _) _
          have hst6 := hst.grow hb6
          have hn6 := heap_alloc_new w5 (.cells #[.int .i64 xo, .int .i64 xw, .int .i64 xv] 70 (0, 0))
          have hs6 := hb6.size
          have hbs6 : w2.heap.size ≤ (w5.alloc (.cells #[.int .i64 xo, .int .i64 xw, .int .i64 xv] 70)).heap.size := by omega
          have hrow := Lib.hid hst6.rv
          have hyN := Lib.hid (show RV (w5.alloc (.cells #[.int .i64 xo, .int .i64 xw, .int .i64 xv] 70)) (fun _ => False) ⟨xo, xw, xv⟩ (#[.int .i64 xo, .int .i64 xw, .int .i64 xv] : Array Value).toList from ⟨rfl, ox⟩)
          have hF0 := Lib.hid (show ∀ k : Nat, (fun _ : Nat => False) k → (fun _ : Nat => False) k from fun _ h => h)
          have hA0 := Lib.hid (show ∀ k, v'.ownBlock = some k → ¬ (fun _ : Nat => False) k from fun _ _ h => h)
          have hL0 := Lib.hid (show ∀ k, (fun _ : Nat => False) k → k < (w5.alloc (.cells #[.int .i64 xo, .int .i64 xw, .int .i64 xv] 70)).heap.size from fun _ h => h.elim)
          have c30 := cell_of_block hst6.at_ 1
          replace hst6 := Lib.hid hst6
          replace hst := Lib.hid hst
          replace htk := Lib.hid htk
          replace hln := Lib.hid hln
          replace hsl := Lib.hid hsl
          replace ox := Lib.hid ox
          replace hn6 := Lib.hid hn6
          replace hb6 := Lib.hid hb6
          clear hr1 hrr
          go_wp2_with (first
            | (refine wpList_buildS rfl 30 1 [(0, .tmp 40)] rfl [(0, .agg #[.int .i64 xo, .int .i64 xw, .int .i64 xv])] rfl _ _ (hsl.out _) ?_)
            | (at_builtin; refine wpList_appRows (P := Tryd.prog) (R := RV) (e := 46) (size := 3) (base := w2.heap.size) (F := fun _ => False) (F' := fun _ => False) rfl liesRV (.tmp 39) (.tmp 41) 30 rfl Tryd.underlying30 24 hinfoV.out (by decide) rfl hrow ⟨xo, xw, xv⟩ #[.int .i64 xo, .int .i64 xw, .int .i64 xv] hyN hF0 hA0 hL0 rfl hln.out (by decide) hbs6 ?_; intro v8 w8 hr8 hO8 hM8; obtain ⟨a8, n8, c8, hv8⟩ : ∃ a n c, v8 = .slice a n c := (by obtain ⟨a, c, e, _⟩ := hr8.out.form; exact ⟨a, _, c, e⟩); subst hv8; have h8 := hO8.out.heap hst6.out.at_ (fun e => by have := (hst6.out.rv.ownLt _ e).1; omega); have c38 := cell_of_block h8 1; have f38 := free_of_block h8 1; have hU9 := Lib.hid ((Upd.refl h8).setCell (j := 1) (.slice a8 n8 c8)); have hst9 := Lib.hid (hst6.out.appV hr8.out hO8.out hM8.out hU9.out); replace h8 := Lib.hid h8))
          refine hback2.out _ _ (by kernel_rfl) ?_ ?_
          · simp only [List.getD_cons_zero, List.getD_cons_succ]
            exact ⟨j + 1, by omega, by go_num, .slice a8 n8 c8, by rw [htk.out]; exact hst9.out⟩
          · have h34 := h34.out
            simp only [List.getD_cons_zero, List.getD_cons_succ, h34, intOf]
            omega
        · obtain rfl : j = V := by omega
          rw [show m.vs.take j = m.vs by rw [hVl.out]; exact List.take_length] at hst
          have a25 := (hst.only.block _ (block_lt a2.out) (by omega)).trans a2.out
          obtain ⟨vN, vlN, vcN, rfl⟩ : ∃ a n c, v = .slice a n c := by obtain ⟨a, c, e, _⟩ := hst.rn.form; exact ⟨a, _, c, e⟩
          obtain ⟨vV, vlV, vcV, rfl⟩ : ∃ a n c, v' = .slice a n c := by obtain ⟨a, c, e, _⟩ := hst.rv.form; exact ⟨a, _, c, e⟩
          have hat := Lib.hid hst.at_
          have huM : Tryd.prog.underlying 32 = _ := Tryd.underlying32
          have iM : (Tryd.prog.info? 32).map (·.size) = some (#[.slice vN vlN vcN, .slice vV vlV vcV] : Array Value).size := by kernel_rfl
          have h1M : (#[.slice vN vlN vcN, .slice vV vlV vcV] : Array Value).all (·.oneCell') = true := by simp [Value.oneCell']
          replace a25 : Hid (w5.heap[n0 + 1]? = some (.cells #[.slice none 0 0, .slice none 0 0] 32 (0, 0))) := Lib.hid a25
          replace hst := Lib.hid hst
          go_wp2_with (first
            | (refine wpList_load_row rfl 32 (.tmp 3) rfl (n0 + 1 + 1) #[.slice vN vlN vcN, .slice vV vlV vcV] _ rfl hat huM rfl iM ?_)
            | (refine wpList_store_row rfl 32 (.tmp 2) (.tmp 45) rfl (n0 + 1) #[.slice none 0 0, .slice none 0 0] #[.slice vN vlN vcN, .slice vV vlV vcV] rfl rfl a25 iM rfl h1M ?_; intro w9 hU9))
          refine ret_cell_row (c := #[.slice vN vlN vcN, .slice vV vlV vcV]) rfl rfl huM rfl iM hU9.out.here ?_
          have hO9 : Only (fun k => k = n0 + 1) w5 w9 := Only.ofUpd hU9.out rfl
          have hln := hst.out.lt
          refine ⟨_, _, rfl, ?_, ?_, ?_⟩
          · exact (hst.out.rn.only liesRN hO9 (fun k hk => hk.elim) (fun k hk e => by have := (hst.out.rn.ownLt k hk).1; omega)).mono (by rw [← hn0.out]; omega)
          · exact (hst.out.rv.only liesRV hO9 (fun k hk => hk.elim) (fun k hk e => by have := (hst.out.rv.ownLt k hk).1; omega)).mono (by rw [← hn0.out]; omega)
          · have h1 := (hst.out.only.below (B := n0) (by omega) (fun k e => by omega))
            have h2 := hO9.below (B := n0) (by have := h1.size; omega) (fun k e => by omega)
            have h3 := (hB.out.trans (hn0.out ▸ h1)).trans (hn0.out ▸ h2)
            exact h3
end Go.Proofs.YtndgacjfkoliaaaDoor
