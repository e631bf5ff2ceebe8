/- The law ModelOf, walked. -/
import Derived.Test.YtpehdoepcpmnbaaDoorF35ModelOfSaid
import Derived.Test.YtpehdoepcpmnbaaDoorF37ModelOfSaid
import Derived.Test.YtpehdoepcpmnbaaDoorF42ModelOfSaid
import Derived.Test.YtpehdoepcpmnbaaDoorF38ModelOfSaid
import Derived.Test.YtpehdoepcpmnbaaDoorF5ModelOfSaid
namespace Go.Proofs.YtpehdoepcpmnbaaDoor
open Go.RowKit
set_option linter.unusedVariables false

/-- 'err == nil'. -/
theorem ErrIs.eql {ea : Nat → Addr} {w : World} {v : Value} {n : Nat} (h : ErrIs ea w v n) (W : World) : (binOp .eql 61 v .nilIface).run Tryd.prog W = .ok (.bool (n == 0)) W := by
  rcases h with ⟨rfl, rfl⟩ | ⟨i, h1, rfl, rfl⟩ | ⟨i, g, F, V, h1, rfl, rfl, h4⟩
  · show _ = _
    kernel_rfl
  · show _ = _
    kernel_rfl
  · show _ = _
    kernel_rfl
theorem ErrIs.guardE {ea : Nat → Addr} {w : World} {v : Value} {n : Nat} (h : ErrIs ea w v n) (W : World) (i : Nat) : Sem.run Tryd.prog (eqGuard .eql 61 (.tmp i) (.const .nilIface) v .nilIface) W = .ok () W := by
  rcases h with ⟨rfl, rfl⟩ | ⟨i, h1, rfl, rfl⟩ | ⟨i, g, F, V, h1, rfl, rfl, h4⟩
  · show _ = _
    kernel_rfl
  · show _ = _
    kernel_rfl
  · show _ = _
    kernel_rfl
/-- How far a state has grown behind k records. -/
def Upto (k : Nat) (m : St) : Prop := m.its.length ≤ k ∧ m.ens.length ≤ k ∧ ∀ y ∈ m.its, y.u ≤ k ∧ y.r ≤ k
theorem Upto.mono {k k' : Nat} {m : St} (h : Upto k m) (hk : k ≤ k') : Upto k' m := ⟨Nat.le_trans h.1 hk, Nat.le_trans h.2.1 hk, fun y hy => by
  obtain ⟨h1, h2⟩ := h.2.2 y hy
  exact ⟨by omega, by omega⟩⟩
theorem upto_set {k : Nat} {l : List It} (h : ∀ y ∈ l, y.u ≤ (k : Int) ∧ y.r ≤ (k : Int)) (i : Nat) (z : It) (hz : z.u ≤ ((k + 1 : Nat) : Int) ∧ z.r ≤ ((k + 1 : Nat) : Int)) : ∀ y ∈ l.set i z, y.u ≤ ((k + 1 : Nat) : Int) ∧ y.r ≤ ((k + 1 : Nat) : Int) := fun y hy => by
  rcases List.mem_or_eq_of_mem_set hy with h1 | h1
  · have := h y h1; omega
  · rw [h1]; exact hz
theorem getD_upto {k : Nat} {l : List It} (h : ∀ y ∈ l, y.u ≤ (k : Int) ∧ y.r ≤ (k : Int)) (i : Nat) : (l.getD i default).u ≤ (k : Int) ∧ (l.getD i default).r ≤ (k : Int) := by
  by_cases hi : i < l.length
  · rw [getD_lt2 _ hi]; exact h _ (List.getElem_mem hi)
  · rw [List.getD_eq_getElem?_getD, List.getElem?_eq_none (by omega)]
    show (0 : Int) ≤ k ∧ (0 : Int) ≤ k
    omega
theorem follow_upto {k : Nat} {m : St} {x : Rc} (h : Upto k m) (h0 : (followM m x).2 = 0) : Upto (k + 1) (followM m x).1 := by
  obtain ⟨h1, h2, h3⟩ := h
  have h3' : ∀ y ∈ m.its, y.u ≤ ((k + 1 : Nat) : Int) ∧ y.r ≤ ((k + 1 : Nat) : Int) := fun y hy => by have := h3 y hy; omega
  unfold followM at h0 ⊢
  split at h0
  · next hc => exact absurd h0 hc
  · next hc =>
    rw [if_neg hc]
    split at h0
    · next hk =>
      rw [if_pos hk]
      unfold objectM at h0 ⊢
      split at h0
      · cases h0
      · next g1 =>
        rw [if_neg g1]
        split at h0
        · cases h0
        · next g2 =>
          rw [if_neg g2]
          split at h0
          · cases h0
          · next g3 =>
            rw [if_neg g3]
            refine ⟨by simp; omega, by simp only; omega, fun y hy => ?_⟩
            rcases List.mem_append.1 hy with hy | hy
            · exact h3' y hy
            · rw [List.mem_singleton.1 hy]
              show (0 : Int) ≤ _ ∧ (0 : Int) ≤ _
              omega
    · next hk =>
      rw [if_neg hk]
      split at h0
      · next hk2 =>
        rw [if_pos hk2]
        unfold askedM at h0 ⊢
        split at h0
        · cases h0
        · next g1 =>
          rw [if_neg g1]
          split at h0
          · cases h0
          · next g2 =>
            rw [if_neg g2]
            split at h0
            · cases h0
            · next g3 =>
              rw [if_neg g3]
              split at h0
              · cases h0
              · next g4 =>
                rw [if_neg g4]
                refine ⟨by simp; omega, by simp; omega, upto_set h3 _ _ ?_⟩
                have := getD_upto h3 x.obj.toNat
                unfold usedI
                split
                · simp only; omega
                · simp only; omega
      · next hk2 =>
        rw [if_neg hk2]
        split at h0
        · next hk4 =>
          rw [if_pos hk4]
          unfold keptM at h0 ⊢
          split at h0
          · cases h0
          · next g1 =>
            rw [if_neg g1]
            split at h0
            · cases h0
            · next g2 =>
              rw [if_neg g2]
              refine ⟨by simp; omega, by simp only; omega, upto_set h3 _ _ ?_⟩
              have := getD_upto h3 x.obj.toNat
              simp only; omega
        · next hk4 =>
          rw [if_neg hk4]
          unfold judgedM at h0 ⊢
          split at h0
          · cases h0
          · next g1 =>
            rw [if_neg g1]
            split at h0
            · cases h0
            · next g2 =>
              rw [if_neg g2]
              split at h0
              · cases h0
              · next g3 =>
                rw [if_neg g3]
                exact ⟨by simp only; omega, by simp; omega, h3'⟩
/-- The state so far, in its box. -/
structure LawSt (b : Nat) (k : Nat) (w wr : World) (C : Array Value) (m : St) : Prop where
  at_ : wr.heap[b]? = some (.cells C 56 (0, 0))
  arg : ArgS wr (.agg C) m
  fresh : FreshS (b + 1) (.agg C)
  upto : Upto k m
  below : Below b w wr
set_option maxRecDepth 100000 in
set_option maxHeartbeats 2000000 in
theorem modelOf_law (a : Option Addr) (c : Nat) (xs : List Rc) (w : World) (hx : RowAt Rc.list 78 w a xs) (okX : ∀ x ∈ xs, x.Ok) (ea : Nat → Addr) (H : Errs 177 errGs w ea) :
    Calls Tryd.prog 5 #[.slice a xs.length c] w fun e w' => e = .returned (.bool true) ∧ Below w.heap.size w w' := by
  have hal := alive34_any w (pz ea) (par_of H) (ea 12) (num_cells H).2.2.2.2.2.2.2.2.2.2.2.2.1
  obtain ⟨N, hNl⟩ : ∃ N, N = xs.length := ⟨_, rfl⟩
  rw [← hNl]
  by_cases h30 : 30 < N
  · have hlt : (30 : Int) < (N : Int) := by omega
    replace hal := Lib.hid hal
    clear hx okX H hNl h30
    go_enter Tryd.func5, Tryd.ntmps5
    go_wp2_with fail
    with_reducible refine hal.out.mono ?_
    rintro e w1 ⟨rfl, hb⟩
    replace hb := Lib.hid hb
    go_wp2_with fail
    go_ret
    exact ⟨rfl, hb.out⟩
  · have hlt : ¬ (30 : Int) < (N : Int) := by omega
    have hNl2 := Lib.hid hNl
    replace hal := Lib.hid hal
    replace hx := Lib.hid hx
    replace okX := Lib.hid okX
    replace H := Lib.hid H
    clear hNl
    go_enter Tryd.func5, Tryd.ntmps5
    go_wp2_with fail
    with_reducible refine hal.out.mono ?_
    rintro e w1 ⟨rfl, hb⟩
    clear hal
    have hB1 := Lib.hid hb
    have hs1 := hb.size
    obtain ⟨n1, hn1⟩ : ∃ n1, n1 = w1.heap.size := ⟨_, rfl⟩
    obtain ⟨C0, hC0⟩ : ∃ C0 : Array Value, C0 = #[.slice none 0 0, .slice none 0 0] := ⟨_, rfl⟩
    have hb2 : Below n1 w1 (w1.alloc (.cells C0 56)) := by rw [hn1]; exact (Below.refl _ _).alloc (Nat.le_refl _) _
    have hst0 : LawSt n1 0 w1 (w1.alloc (.cells C0 56)) C0 ⟨[], []⟩ := ⟨by rw [hn1]; exact heap_alloc_new w1 _, by rw [hC0]; exact argS_nil _, by rw [hC0]; exact freshS_nil _, ⟨Nat.le_refl _, Nat.le_refl _, fun y hy => (List.not_mem_nil hy).elim⟩, hb2⟩
    rw [hC0] at hst0
    replace hst0 := Lib.hid hst0
    replace hC0 := Lib.hid hC0
    clear hb hb2
    go_wp2_with fail
    rw [← hn1]
    replace hn1 := Lib.hid hn1
    refine wp_loopF [(false, 5), (true, 3), (false, 8), (true, 18), (false, 7)] _ [] (fun U wr => ∃ k : Nat, k ≤ N ∧ U 16 = .int .i64 (k : Nat) ∧ ∃ C m, LawSt n1 k w1 wr C m) (fun U _ => N - (intOf (U 16)).toNat) ?_ ?_
    · simp only [List.getD_cons_zero, List.getD_cons_succ]
      exact ⟨0, Nat.zero_le _, rfl, _, _, hst0.out⟩
    · clear hst0
      intro U wr hrel KK hback l' hl'
      obtain ⟨k, hk, h16, C, m, hst⟩ := hrel
      simp only [fillS, popSeg, cond_true, cond_false, Nat.reduceAdd, h16] at hl'
      subst hl'
      replace h16 := Lib.hid h16
      have hBw : Below w.heap.size w wr := hB1.out.trans (hst.below.mono (by rw [hn1.out]; exact hs1))
      have hl1 : m.its.length ≤ 1000 := by have := hst.upto.1; omega
      have hl2 : m.ens.length ≤ 1000 := by have := hst.upto.2.1; omega
      have hub : ∀ y ∈ m.its, y.u ≤ 1000000 ∧ y.r ≤ 1000000 := fun y hy => by have := hst.upto.2.2 y hy; omega
      have hshape := hst.arg.shape
      have iC : (Tryd.prog.info? 56).map (·.size) = some C.size := by
        obtain ⟨_, _, _, _, e⟩ := hshape
        injection e with e
        rw [e]; kernel_rfl
      have hbl := block_lt hst.at_
      have aC := Lib.hid hst.at_
      replace hst := Lib.hid hst
      replace hBw := Lib.hid hBw
      clear hshape
      by_cases hlt : k < N
      · have hlt2 : (k : Int) < (N : Int) := by omega
        have hkN : k < xs.length := by rw [← hNl2.out]; exact hlt
        obtain ⟨b1, o1, rfl, hr1⟩ := (hx.out.below hBw.out (Nat.le_refl _)) k hkN
        have ox := okX.out _ (List.getElem_mem hkN)
        generalize xs[k] = x at *
        obtain ⟨X, hX⟩ : ∃ X, X = x.list.toArray := ⟨_, rfl⟩
        have hX1 : X.all (·.oneCell') = true := by rw [hX]; exact Rc.all_one x
        have iX : (Tryd.prog.info? 59).map (·.size) = some X.size := by rw [hX, Rc.size ox]; kernel_rfl
        have zX : (Tryd.zeroCells59).size = X.size := by rw [hX, Rc.size ox]; kernel_rfl
        have ix : (Tryd.prog.info? 59).map (·.size) = some x.list.length := by rw [Rc.len ox.root ox.file]; kernel_rfl
        have hz1 : Hid ((wr.alloc (.cells Tryd.zeroCells59 59)).heap[wr.heap.size]? = some (.cells Tryd.zeroCells59 59 (0, 0))) := heap_alloc_new wr (.cells Tryd.zeroCells59 59 (0, 0))
        have hfo := fun W (h : Below wr.heap.size wr W) => follow_any (.agg C) m x ox W (hst.out.arg.below h (Nat.le_refl _)) hl1 hl2 hub ea ((H.out.below hBw.out).below h)
        have hup := fun (h0 : (followM m x).2 = 0) => follow_upto hst.out.upto h0
        obtain ⟨L, hL⟩ : ∃ L : Int, (x.name.size : Int) = L := ⟨_, rfl⟩
        have hk3 : ∀ (W : World) b, W.heap[b]? = some (.cells X 59 (0, 0)) → W.cell? ⟨b, 3, none⟩ = some (.string x.name) := fun W b h => by rw [cell_of_block h, hX, List.getElem?_toArray]; exact x.c3
        rw [← hX] at hfo
        generalize x.name = nm at *
        generalize (followM m x).1 = m' at *
        generalize (followM m x).2 = n' at *
        replace hX := Lib.hid hX
        replace hr1 := Lib.hid hr1
        replace hfo := Lib.hid hfo
        replace hup := Lib.hid hup
        replace hk3 := Lib.hid hk3
        clear ox hub
        by_cases h100 : 100 < L
        · go_wp2_with (first
            | ((with_reducible show wpList _ _ _ (Oper.mk _ (Op.load 59 (.tmp 18)) _ _ _ _ :: _) _ _); (refine wpList_load_mid rfl 59 (.tmp 18) rfl b1 (o1 + k * 78) rfl x.list _ hr1.out Tryd.underlying59 rfl ix ?_); rw [← hX.out])
            | ((with_reducible show wpList _ _ _ (Oper.mk _ (Op.store 59 (.tmp 5) _) _ _ _ _ :: _) _ _); (refine wpList_store_row rfl 59 (.tmp 5) (.tmp 19) rfl wr.heap.size _ X rfl rfl hz1 iX zX hX1 ?_); intro w3 hU3; have hb3 := Lib.hid (((Below.refl wr.heap.size wr).alloc (Nat.le_refl _) _).trans (hU3.out.below (Nat.le_refl _))); have k3 := hk3.out _ _ hU3.out.here))
          go_ret
          exact ⟨rfl, hBw.out.trans (hb3.out.mono hBw.out.size)⟩
        · go_wp2_with (first
            | ((with_reducible show wpList _ _ _ (Oper.mk _ (Op.load 59 (.tmp 18)) _ _ _ _ :: _) _ _); (refine wpList_load_mid rfl 59 (.tmp 18) rfl b1 (o1 + k * 78) rfl x.list _ hr1.out Tryd.underlying59 rfl ix ?_); rw [← hX.out])
            | ((with_reducible show wpList _ _ _ (Oper.mk _ (Op.store 59 (.tmp 5) _) _ _ _ _ :: _) _ _); (refine wpList_store_row rfl 59 (.tmp 5) (.tmp 19) rfl wr.heap.size _ X rfl rfl hz1 iX zX hX1 ?_); intro w3 hU3; have hb3 := Lib.hid (((Below.refl wr.heap.size wr).alloc (Nat.le_refl _) _).trans (hU3.out.below (Nat.le_refl _))); have k3 := hk3.out _ _ hU3.out.here; have aX3 := Lib.hid hU3.out.here; have aC3 := Lib.hid ((hb3.out.block _ hbl).trans aC.out))
            | ((with_reducible show wpList _ _ _ (Oper.mk _ (Op.load 56 (.tmp 3)) _ _ _ _ :: _) _ _); refine wpList_load_row rfl 56 (.tmp 3) rfl n1 C _ rfl aC3 Tryd.underlying56 rfl iC ?_)
            | ((with_reducible show wpList _ _ _ (Oper.mk _ (Op.load 59 (.tmp 5)) _ _ _ _ :: _) _ _); refine wpList_load_row rfl 59 (.tmp 5) rfl wr.heap.size X _ rfl aX3 Tryd.underlying59 rfl iX ?_))
          with_reducible refine (hfo.out _ hb3.out).mono ?_
          rintro e w5 ⟨vm, v5, rfl, hA, hE, hb5, hfr⟩
          obtain ⟨x1, d1, x2, d2, rfl⟩ := hA.shape
          obtain ⟨C2, hC2⟩ : ∃ C2 : Array Value, C2 = #[.slice x1 m'.its.length d1, .slice x2 m'.ens.length d2] := ⟨_, rfl⟩
          rw [← hC2] at hA hfr ⊢
          have iC2 : (Tryd.prog.info? 56).map (·.size) = some C2.size := by rw [hC2]; kernel_rfl
          have zC2 : (#[.slice none 0 0, .slice none 0 0] : Array Value).size = C2.size := by rw [hC2]; rfl
          have h1C2 : C2.all (·.oneCell') = true := by rw [hC2]; simp [Value.oneCell']
          have hCC : C.size = C2.size := by rw [hC2]; obtain ⟨_, _, _, _, e⟩ := hst.out.arg.shape; injection e with e; rw [e]; rfl
          have hu := hE.eql
          have hg := hE.guardE
          have aC5 := Lib.hid ((hb5.block _ (block_lt aC3.out)).trans aC3.out)
          have hb15 : Below wr.heap.size wr w5 := hb3.out.trans (hb5.mono hb3.out.size)
          have hZ5 := Lib.hid (heap_alloc_new w5 (.cells #[.slice none 0 0, .slice none 0 0] 56))
          have hs35 := hb3.out.size
          have hs5 := hb5.size
          have hb15h := Lib.hid hb15
          replace hA := Lib.hid hA
          replace hfr := Lib.hid hfr
          replace hC2 := Lib.hid hC2
          clear hE hb15 k3
          by_cases hn' : n' = 0
          · have hup2 := Lib.hid (hup.out hn')
            subst hn'
            have hz0 : ((0 : Nat) == 0) = true := rfl
            rw [hz0] at hu
            go_wp2_with (first
              | ((with_reducible show wpList _ _ _ (Oper.mk _ (Op.store 56 (.tmp 6) _) _ _ _ _ :: _) _ _); (refine wpList_store_row rfl 56 (.tmp 6) (.tmp 28) rfl w5.heap.size _ C2 rfl rfl hZ5 iC2 zC2 h1C2 ?_); intro w6 hU6; have hb6 : Below w5.heap.size w5 w6 := (Below.alloc (Below.refl w5.heap.size w5) (Nat.le_refl _) _).trans (hU6.out.below (Nat.le_refl _)); have aN6 := Lib.hid hU6.out.here; have aC6 := Lib.hid ((hb6.block _ (block_lt aC5.out)).trans aC5.out); replace hb6 := Lib.hid hb6)
              | ((with_reducible show wpList _ _ _ (Oper.mk _ (Op.load 56 (.tmp 6)) _ _ _ _ :: _) _ _); refine wpList_load_row rfl 56 (.tmp 6) rfl w5.heap.size C2 _ rfl aN6 Tryd.underlying56 rfl iC2 ?_)
              | ((with_reducible show wpList _ _ _ (Oper.mk _ (Op.store 56 (.tmp 3) _) _ _ _ _ :: _) _ _); (refine wpList_store_row rfl 56 (.tmp 3) (.tmp 32) rfl n1 C C2 rfl rfl aC6 iC2 hCC h1C2 ?_); intro w7 hU7))
            refine hback.out _ _ (by kernel_rfl) ?_ ?_
            · simp only [List.getD_cons_zero, List.getD_cons_succ]
              exact ⟨k + 1, by omega, by go_num, C2, m', hU7.out.here, (hA.out.below hb6.out (Nat.le_refl _)).upd hfr.out hU7.out (by omega), hfr.out.mono (by omega), hup2.out, (hst.out.below.trans ((hb15h.out.trans (hb6.out.mono hb15h.out.size)).mono (by omega))).trans (hU7.out.below (Nat.le_refl _))⟩
            · have h16 := h16.out
              simp only [List.getD_cons_zero, List.getD_cons_succ, h16, intOf]
              omega
          · have hz0 : (n' == 0) = false := by simpa using hn'
            rw [hz0] at hu
            clear hn'
            go_wp2_with (first
              | ((with_reducible show wpList _ _ _ (Oper.mk _ (Op.store 56 (.tmp 6) _) _ _ _ _ :: _) _ _); (refine wpList_store_row rfl 56 (.tmp 6) (.tmp 28) rfl w5.heap.size _ C2 rfl rfl hZ5 iC2 zC2 h1C2 ?_); intro w6 hU6; have hb6 : Below w5.heap.size w5 w6 := (Below.alloc (Below.refl w5.heap.size w5) (Nat.le_refl _) _).trans (hU6.out.below (Nat.le_refl _)); replace hb6 := Lib.hid hb6))
            refine hback.out _ _ (by kernel_rfl) ?_ ?_
            · simp only [List.getD_cons_zero, List.getD_cons_succ]
              have hb16 := hb15h.out.trans (hb6.out.mono hb15h.out.size)
              exact ⟨k + 1, by omega, by go_num, C, m, (hb16.block _ hbl).trans aC.out, hst.out.arg.below hb16 (Nat.le_refl _), hst.out.fresh, hst.out.upto.mono (by omega), hst.out.below.trans (hb16.mono (by omega))⟩
            · have h16 := h16.out
              simp only [List.getD_cons_zero, List.getD_cons_succ, h16, intOf]
              omega
      · obtain rfl : k = N := by omega
        go_wp2_with fail
        have rlA : ∀ W : World, Grown wr W → W.heap[n1]? = some (.cells C 56 (0, 0)) := fun W hW => (hW.block _ hbl).trans aC.out
        have huA : Tryd.prog.underlying 56 = _ := Tryd.underlying56
        have hzA := iC
        have hd0 : Hid (Grown wr wr.drew) := Lib.hid (Grown.drew (Grown.refl wr))
        have hAr := Lib.hid hst.out.arg
        have hl1m : (⟨m.its.map It.nm, m.ens.map En.vd⟩ : Md).ns.length ≤ 1000 := by show (m.its.map It.nm).length ≤ 1000; rw [List.length_map]; exact hl1
        have hl2m : (⟨m.its.map It.nm, m.ens.map En.vd⟩ : Md).vs.length ≤ 1000 := by show (m.ens.map En.vd).length ≤ 1000; rw [List.length_map]; exact hl2
        clear hback
        refine wp_region_held_drew (S := (Grown wr)) (by kernel_rfl) hd0.out (fun hOn => ?_)
        generalize World.drew wr = wd at *
        refine wpAnyH_take (i := 0) (v := Value.agg _) (by simp only [List.getElem?_toArray, List.getElem?_cons_zero]; rfl) (by kernel_rfl) (by kernel_rfl) (by kernel_rfl) (by exact fun _ _ _ h => h) (Or.inl ⟨by rfl, fun W hSW => yields_load_row _ _ rfl _ _ _ rfl (rlA W hSW) huA rfl hzA⟩) hOn ?_
        try simp only [Act.put, List.setIfInBounds_toArray, List.set_cons_zero, List.set_cons_succ]
        refine wpAnyH_take (i := 3) (v := Value.agg _) (by simp only [List.getElem?_toArray, List.getElem?_cons_succ, List.getElem?_cons_zero]; rfl) (by kernel_rfl) (by kernel_rfl) (by kernel_rfl) (by exact fun _ _ _ h => h) (Or.inl ⟨by rfl, fun W hSW => yields_load_row _ _ rfl _ _ _ rfl (rlA W hSW) huA rfl hzA⟩) hOn ?_
        try simp only [Act.put, List.setIfInBounds_toArray, List.set_cons_zero, List.set_cons_succ]
        refine wpAnyH_ready (rs := [1]) (by kernel_rfl) (by simp) ?_
        refine AllReadyH.cons (by simp only [List.getElem?_toArray, List.getElem?_cons_succ, List.getElem?_cons_zero]; rfl) (fun Kz hKz => ?_) AllReadyH.nil
        go_simp
        (with_reducible refine (modelOf_any (.agg C) m _ (hAr.out.below hOn (Nat.le_refl _)) hl1 hl2).mono ?_)
        rintro e wa ⟨va1, va2, rfl, hr1, hr2, hnew⟩
        have hS := Grown.trans hOn hnew
        have hM1 := Lib.hid (argM_of hr1 hr2)
        clear hr1 hr2
        focus (go_wp2_with fail)
        refine hKz.out _ _ (by first | exact hS | exact Below.trans hOn (Below.mono hnew (Below.size hOn))) (fun hNext => ?_)
        clear hKz Kz hOn
        have hOn := hNext
        clear hNext
        try clear hnew
        try clear hS
        try simp only [Act.put, List.setIfInBounds_toArray, List.set_cons_zero, List.set_cons_succ]
        refine wpAnyH_ready (rs := [2]) (by kernel_rfl) (by simp) ?_
        refine AllReadyH.cons (by simp only [List.getElem?_toArray, List.getElem?_cons_succ, List.getElem?_cons_zero]; rfl) (fun Kz hKz => ?_) AllReadyH.nil
        go_simp
        (with_reducible refine (of34_any _ _ _ hM1.out hl1m hl2m).mono ?_)
        rintro e wb ⟨vb1, vb2, rfl, hr3, hr4, hnew⟩
        have hS := Grown.trans hOn hnew
        have hM2 := Lib.hid (argM_of hr3 hr4)
        clear hr3 hr4
        focus (go_wp2_with fail)
        refine hKz.out _ _ (by first | exact hS | exact Below.trans hOn (Below.mono hnew (Below.size hOn))) (fun hNext => ?_)
        clear hKz Kz hOn
        have hOn := hNext
        clear hNext
        try clear hnew
        try clear hS
        try simp only [Act.put, List.setIfInBounds_toArray, List.set_cons_zero, List.set_cons_succ]
        refine wpAnyH_ready (rs := [4]) (by kernel_rfl) (by simp) ?_
        refine AllReadyH.cons (by simp only [List.getElem?_toArray, List.getElem?_cons_succ, List.getElem?_cons_zero]; rfl) (fun Kz hKz => ?_) AllReadyH.nil
        go_simp
        (with_reducible refine (law21Of_any (.agg C) m _ (hAr.out.below hOn (Nat.le_refl _)) hl1 hl2).mono ?_)
        rintro e wc ⟨vc1, vc2, rfl, hr5, hr6, hnew⟩
        have hS := Grown.trans hOn hnew
        have hS1 := Lib.hid (argS_of hr5 hr6)
        clear hr5 hr6
        replace hM2 := Lib.hid (hM2.out.below hnew (Nat.le_refl _))
        focus (go_wp2_with fail)
        refine hKz.out _ _ (by first | exact hS | exact Below.trans hOn (Below.mono hnew (Below.size hOn))) (fun hNext => ?_)
        clear hKz Kz hOn
        have hOn := hNext
        clear hNext
        try clear hnew
        try clear hS
        try simp only [Act.put, List.setIfInBounds_toArray, List.set_cons_zero, List.set_cons_succ]
        refine wpAnyH_ready (rs := [5]) (by kernel_rfl) (by simp) ?_
        refine AllReadyH.cons (by simp only [List.getElem?_toArray, List.getElem?_cons_succ, List.getElem?_cons_zero]; rfl) (fun Kz hKz => ?_) AllReadyH.nil
        go_simp
        (with_reducible refine (ref34Of_any _ m _ hS1.out hl1 hl2).mono ?_)
        rintro e we ⟨ve1, ve2, rfl, hr7, hr8, hnew⟩
        have hS := Grown.trans hOn hnew
        have hM3 := Lib.hid (argM_of hr7 hr8)
        clear hr7 hr8
        replace hM2 := Lib.hid (hM2.out.below hnew (Nat.le_refl _))
        focus (go_wp2_with fail)
        refine hKz.out _ _ (by first | exact hS | exact Below.trans hOn (Below.mono hnew (Below.size hOn))) (fun hNext => ?_)
        clear hKz Kz hOn
        have hOn := hNext
        clear hNext
        try clear hnew
        try clear hS
        try simp only [Act.put, List.setIfInBounds_toArray, List.set_cons_zero, List.set_cons_succ]
        refine wpAnyH_ready (rs := [6]) (by kernel_rfl) (by simp) ?_
        refine AllReadyH.cons (by simp only [List.getElem?_toArray, List.getElem?_cons_succ, List.getElem?_cons_zero]; rfl) (fun Kz hKz => ?_) AllReadyH.nil
        go_simp
        (with_reducible refine (same34_eq _ _ _ _ hM2.out hM3.out hl1m hl2m).mono ?_)
        rintro e wf ⟨rfl, hnew⟩
        have hS := Grown.trans hOn hnew
        focus (go_wp2_with fail)
        refine hKz.out _ _ (by first | exact hS | exact Below.trans hOn (Below.mono hnew (Below.size hOn))) (fun hNext => ?_)
        clear hKz Kz hOn
        have hOn := hNext
        clear hNext
        try clear hnew
        try clear hS
        try simp only [Act.put, List.setIfInBounds_toArray, List.set_cons_zero, List.set_cons_succ]
        refine wpAnyH_take (i := 7) (v := ?_) (by simp only [List.getElem?_toArray, List.getElem?_cons_succ, List.getElem?_cons_zero]; rfl) (by kernel_rfl) (by kernel_rfl) (by kernel_rfl) (by exact fun _ _ _ h => h) (Or.inl ⟨by rfl, ?_⟩) hOn ?_
        rotate_left
        focus (intro W hSW; go_simp; try with_reducible rfl)
        try simp only [Act.put, List.setIfInBounds_toArray, List.set_cons_zero, List.set_cons_succ]
        refine wpAnyH_done (by kernel_rfl) ?_ _
        all_goals
          go_wp2_with fail
          go_ret
          exact ⟨rfl, hBw.out.trans (hOn.mono hBw.out.size)⟩
end Go.Proofs.YtpehdoepcpmnbaaDoor
