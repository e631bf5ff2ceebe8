/- ledger.State's Follow, for every state and record. -/
import Derived.Test.YtpehdoepcpmnbaaDoorF33ModelOfSaid
import Derived.Test.YtpehdoepcpmnbaaDoorF34ModelOfSaid
namespace Go.Proofs.YtpehdoepcpmnbaaDoor
open Go.RowKit
set_option linter.unusedVariables false

theorem getD_lt2 {α : Type} {l : List α} {k : Nat} (d : α) (h : k < l.length) : l.getD k d = l[k] := by
  rw [List.getD_eq_getElem?_getD, List.getElem?_eq_getElem h, Option.getD_some]
theorem objectS_any (va : Value) (m : St) (x : Rc) (hx : x.Ok) (w : World) (ha : ArgS w va m) (l1 : m.its.length ≤ 1000) (l2 : m.ens.length ≤ 1000) (ea : Nat → Addr) (H : Errs 177 errGs w ea) : Calls Tryd.prog 34 #[va, .agg x.list.toArray] w (FolPost ea (objectM m x).1 (objectM m x).2 w) := by
  unfold objectM
  by_cases h1 : (namedS m.its x.name).2 = true
  · rw [if_pos h1]
    exact object_dup va m x hx w ha l1 l2 h1 ea H
  · have h1f : (namedS m.its x.name).2 = false := by simpa using h1
    rw [if_neg h1]
    by_cases h2 : 4 ≤ m.its.length
    · rw [if_pos h2]
      exact object_full va m x hx w ha l1 l2 h1f h2 ea H
    · rw [if_neg h2]
      by_cases h3 : x.obj = (m.its.length : Int)
      · rw [if_neg (by simpa using h3)]
        exact object_good va m x hx w ha l1 l2 h1f (by omega) h3 ea
      · rw [if_pos h3]
        exact object_form va m x hx w ha l1 l2 h1f (by omega) h3 ea H
theorem keptS_any (va : Value) (m : St) (x : Rc) (hx : x.Ok) (w : World) (ha : ArgS w va m) (l1 : m.its.length ≤ 1000) (l2 : m.ens.length ≤ 1000) (ea : Nat → Addr) (H : Errs 177 errGs w ea) : Calls Tryd.prog 36 #[va, .agg x.list.toArray] w (FolPost ea (keptM m x).1 (keptM m x).2 w) := by
  unfold keptM
  by_cases h1 : x.obj < 0 ∨ (m.its.length : Int) ≤ x.obj
  · rw [if_pos h1]
    exact kept_none va m x hx w ha l1 l2 (by omega) ea H
  · obtain ⟨i, hi⟩ : ∃ i : Nat, x.obj = (i : Int) := ⟨x.obj.toNat, by omega⟩
    have hil : i < m.its.length := by omega
    have ht : x.obj.toNat = i := by omega
    rw [if_neg h1, ht, getD_lt2 _ hil]
    by_cases h2 : m.its[i].k = true
    · rw [if_pos h2]
      exact kept_state va m x hx w ha l1 l2 i hil hi h2 ea H
    · rw [if_neg h2]
      exact kept_good21 va m x hx w ha l1 l2 i hil hi (by simpa using h2) ea
theorem askedS_any (va : Value) (m : St) (x : Rc) (hx : x.Ok) (w : World) (ha : ArgS w va m) (l1 : m.its.length ≤ 1000) (l2 : m.ens.length ≤ 1000) (hub : ∀ y ∈ m.its, y.u ≤ 1000000 ∧ y.r ≤ 1000000) (ea : Nat → Addr) (H : Errs 177 errGs w ea) : Calls Tryd.prog 35 #[va, .agg x.list.toArray] w (FolPost ea (askedM m x).1 (askedM m x).2 w) := by
  unfold askedM
  by_cases h1 : x.obj < 0 ∨ (m.its.length : Int) ≤ x.obj
  · rw [if_pos h1]
    exact asked_none va m x hx w ha l1 l2 (by omega) ea H
  · obtain ⟨i, hi⟩ : ∃ i : Nat, x.obj = (i : Int) := ⟨x.obj.toNat, by omega⟩
    have hil : i < m.its.length := by omega
    have ht : x.obj.toNat = i := by omega
    rw [if_neg h1, ht, getD_lt2 _ hil]
    by_cases h2 : m.its[i].k = false
    · rw [if_pos h2]
      exact asked_state va m x hx w ha l1 l2 i hil hi h2 ea H
    · have h2t : m.its[i].k = true := by simpa using h2
      rw [if_neg h2]
      by_cases h3 : (nextI m.its[i] x.way).2 = false
      · rw [if_pos h3]
        exact asked_budget va m x hx w ha l1 l2 i hil hi h2t h3 ea H
      · have h3t : (nextI m.its[i] x.way).2 = true := by simpa using h3
        rw [if_neg h3]
        by_cases h4 : x.id = (m.ens.length : Int)
        · by_cases h5 : x.index = (nextI m.its[i] x.way).1
          · rw [if_neg (by simp [h4, h5])]
            have hu := hub _ (List.getElem_mem hil)
            by_cases hw : x.way = 2
            · unfold usedI
              rw [if_pos hw]
              exact asked_sent va m x hx w ha l1 l2 i hil hi h2t hw h3t h4 h5 hu.1 ea
            · unfold usedI
              rw [if_neg hw]
              exact asked_spot va m x hx w ha l1 l2 i hil hi h2t hw h4 h5 hu.2 ea
          · rw [if_pos (.inr h5)]
            exact asked_form2 va m x hx w ha l1 l2 i hil hi h2t h3t h4 h5 ea H
        · rw [if_pos (.inl h4)]
          exact asked_form1 va m x hx w ha l1 l2 i hil hi h2t h3t h4 ea H
theorem judgedS_any (va : Value) (m : St) (x : Rc) (hx : x.Ok) (w : World) (ha : ArgS w va m) (l1 : m.its.length ≤ 1000) (l2 : m.ens.length ≤ 1000) (ea : Nat → Addr) (H : Errs 177 errGs w ea) : Calls Tryd.prog 37 #[va, .agg x.list.toArray] w (FolPost ea (judgedM m x).1 (judgedM m x).2 w) := by
  unfold judgedM
  by_cases h1 : x.id < 0 ∨ (m.ens.length : Int) ≤ x.id
  · rw [if_pos h1]
    exact judged_none va m x hx w ha l1 l2 (by omega) ea H
  · obtain ⟨i, hi⟩ : ∃ i : Nat, x.id = (i : Int) := ⟨x.id.toNat, by omega⟩
    have hil : i < m.ens.length := by omega
    have ht : x.id.toNat = i := by omega
    rw [if_neg h1, ht, getD_lt2 _ hil]
    by_cases h2 : m.ens[i].o = x.obj
    · rw [if_neg (by simpa using h2)]
      by_cases h3 : m.ens[i].v = 0
      · rw [if_neg (by simpa using h3)]
        exact judged_good va m x hx w ha l1 l2 i hil hi h2 h3 ea
      · rw [if_pos h3]
        exact judged_state va m x hx w ha l1 l2 i hil hi h2 h3 ea H
    · rw [if_pos h2]
      exact judged_other va m x hx w ha l1 l2 i hil hi h2 ea H
/-- A state's value, in letters. -/
theorem ArgS.shape {w : World} {v : Value} {m : St} (h : ArgS w v m) : ∃ a c a' c', v = .agg #[.slice a m.its.length c, .slice a' m.ens.length c'] := by
  obtain ⟨⟨a, c, a', c', e, _⟩, _⟩ := h
  exact ⟨a, c, a', c', e⟩
set_option maxRecDepth 100000 in
set_option maxHeartbeats 2000000 in
theorem follow_any (va : Value) (m : St) (x : Rc) (hx : x.Ok) (w : World) (ha : ArgS w va m) (l1 : m.its.length ≤ 1000) (l2 : m.ens.length ≤ 1000) (hub : ∀ y ∈ m.its, y.u ≤ 1000000 ∧ y.r ≤ 1000000) (ea : Nat → Addr) (H : Errs 177 errGs w ea) :
    Calls Tryd.prog 16 #[va, .agg x.list.toArray] w (FolPost ea (followM m x).1 (followM m x).2 w) := by
  have hck : ∀ W, Errs 177 errGs W ea → Calls Tryd.prog 33 #[.agg x.list.toArray] W (fun e w2 => ∃ v, e = .returned v ∧ ErrIs ea w2 v x.chk ∧ Below W.heap.size W w2) := fun W h => check_any x hx ea W h
  have h1 := fun W (h : Below w.heap.size w W) => objectS_any va m x hx W (ha.below h (Nat.le_refl _)) l1 l2 ea (H.below h)
  have h2 := fun W (h : Below w.heap.size w W) => askedS_any va m x hx W (ha.below h (Nat.le_refl _)) l1 l2 hub ea (H.below h)
  have h4 := fun W (h : Below w.heap.size w W) => keptS_any va m x hx W (ha.below h (Nat.le_refl _)) l1 l2 ea (H.below h)
  have h3 := fun W (h : Below w.heap.size w W) => judgedS_any va m x hx W (ha.below h (Nat.le_refl _)) l1 l2 ea (H.below h)
  have hcf := Lib.hid (Rc.kept0 x hx 59)
  have iR : (Tryd.prog.info? 59).map (·.size) = some x.list.toArray.size := by rw [Rc.size hx]; kernel_rfl
  obtain ⟨an, cn, av, cv, rfl⟩ := ha.shape
  clear hub
  obtain ⟨N, hNl⟩ : ∃ N, N = m.its.length := ⟨_, rfl⟩
  obtain ⟨V, hVl⟩ : ∃ V, V = m.ens.length := ⟨_, rfl⟩
  rw [← hNl, ← hVl] at h1 h2 h3 h4
  rw [← hNl, ← hVl]
  obtain ⟨aS, aR, aO, hs3, hB⟩ := three_boxes w #[.slice an N cn, .slice av V cv] x.list.toArray #[.slice none 0 0, .slice none 0 0] 56 59 56 _ rfl
  obtain ⟨w3, hw3⟩ : ∃ w3, w3 = ((w.alloc (.cells #[.slice an N cn, .slice av V cv] 56)).alloc (.cells x.list.toArray 59)).alloc (.cells #[.slice none 0 0, .slice none 0 0] 56) := ⟨_, rfl⟩
  have s0 := cell_of_block aS 0
  have s1 := cell_of_block aS 1
  obtain ⟨q0, _⟩ := hcf.out _ _ aR
  have aR0 := Lib.hid aR
  rw [← hw3] at aS aR aO hB hs3
  have hfm : followM m x = if x.chk ≠ 0 then (⟨[], []⟩, x.chk) else if x.kind = 1 then objectM m x else if x.kind = 2 then askedM m x else if x.kind = 4 then keptM m x else judgedM m x := rfl
  obtain ⟨fm, hfm0⟩ : ∃ fm, fm = followM m x := ⟨_, rfl⟩
  rw [← hfm0] at hfm ⊢
  clear hfm0
  generalize x.list.toArray = R at *
  generalize x.chk = N0 at *
  generalize x.kind = kd at *
  replace h1 := Lib.hid h1
  replace h2 := Lib.hid h2
  replace h3 := Lib.hid h3
  replace h4 := Lib.hid h4
  replace hck := Lib.hid hck
  replace aS := Lib.hid aS
  replace aR := Lib.hid aR
  replace aO := Lib.hid aO
  replace hB := Lib.hid hB
  replace hs3 := Lib.hid hs3
  replace hw3 := Lib.hid hw3
  replace H := Lib.hid H
  have i0 : (Tryd.prog.info? 56).map (·.size) = some (#[.slice none 0 0, .slice none 0 0] : Array Value).size := by kernel_rfl
  replace hfm := Lib.hid hfm
  clear ha hNl hVl
  go_enter Tryd.func16, Tryd.ntmps16
  go_wp2_with ((with_reducible show wpList _ _ _ (Oper.mk _ (Op.load 59 (.tmp 3)) _ _ _ _ :: _) _ _); refine wpList_load_row rfl 59 (.tmp 3) rfl (w.heap.size + 1) R _ rfl aR0 Tryd.underlying59 rfl iR ?_)
  rw [← hw3.out]
  with_reducible refine (hck.out _ (H.out.below hB.out)).mono ?_
  rintro e w4 ⟨v4, rfl, hv4, hb⟩
  have hu := hv4.neq
  have hg := hv4.guard
  clear s0 s1 q0 aR0
  replace aS := Lib.hid ((hb.block _ (block_lt aS.out)).trans aS.out)
  replace aR := Lib.hid ((hb.block _ (block_lt aR.out)).trans aR.out)
  replace aO := Lib.hid ((hb.block _ (block_lt aO.out)).trans aO.out)
  replace hB := Lib.hid (hB.out.trans (hb.mono hB.out.size))
  have hsb := hb.size
  have hs4 := Lib.hid (show w.heap.size + 3 ≤ w4.heap.size from by have := hs3.out; omega)
  clear hb hsb
  have s0 := cell_of_block aS.out 0
  have s1 := cell_of_block aS.out 1
  obtain ⟨q0, _⟩ := hcf.out _ _ aR.out
  by_cases hN0 : N0 = 0
  · subst hN0
    replace hfm := Lib.hid (hfm.out.trans (if_neg (by simp)))
    have hb00 : ((0 : Nat) != 0) = false := rfl
    rw [hb00] at hu

    by_cases hk1 : kd = 1
    · subst hk1
      replace hfm := Lib.hid (hfm.out.trans (if_pos rfl))
      go_wp2_with ((with_reducible show wpList _ _ _ (Oper.mk _ (Op.load 59 (.tmp 3)) _ _ _ _ :: _) _ _); refine wpList_load_row rfl 59 (.tmp 3) rfl (w.heap.size + 1) R _ rfl aR Tryd.underlying59 rfl iR ?_)
      with_reducible refine (h1.out _ hB.out).mono ?_
      rintro e w5 ⟨vm, v5, rfl, hA, hE, hb, hfr⟩
      obtain ⟨b1, d1, b2, d2, rfl⟩ := hA.shape
      obtain ⟨C, hC⟩ : ∃ C : Array Value, C = #[.slice b1 (objectM m x).1.its.length d1, .slice b2 (objectM m x).1.ens.length d2] := ⟨_, rfl⟩
      rw [← hC] at hA hfr ⊢
      have iC : (Tryd.prog.info? 56).map (·.size) = some C.size := by rw [hC]; kernel_rfl
      have zC : (#[.slice none 0 0, .slice none 0 0] : Array Value).size = C.size := by rw [hC]; rfl
      have h1C : C.all (·.oneCell') = true := by rw [hC]; simp [Value.oneCell']
      have aO5 := Lib.hid ((hb.block _ (block_lt aO.out)).trans aO.out)
      replace hB := Lib.hid (hB.out.trans (hb.mono hB.out.size))
      have hs5 := hs4.out
      replace hA := Lib.hid hA
      replace hE := Lib.hid hE
      replace hfr := Lib.hid hfr
      clear hC hb s0 s1 q0
      go_wp2_with ((with_reducible show wpList _ _ _ (Oper.mk _ (Op.store 56 (.tmp 4) _) _ _ _ _ :: _) _ _); (refine wpList_store_row rfl 56 (.tmp 4) (.tmp 20) rfl (w.heap.size + 2) _ C rfl rfl aO5 iC zC h1C ?_); intro w6 hU6)
      refine ret_cell_tmpB rfl rfl Tryd.underlying56 rfl iC hU6.out.here ?_
      rw [hfm.out]
      exact ⟨_, _, rfl, hA.out.upd hfr.out hU6.out (by omega), hE.out.updS hU6.out aO5.out (by decide), hB.out.trans (hU6.out.below (by omega)), hfr.out.mono (by omega)⟩

    · replace hfm := Lib.hid (hfm.out.trans (if_neg hk1))
      have hk1b : (kd == 1) = false := by simpa using hk1
      by_cases hk2 : kd = 2
      · subst hk2
        replace hfm := Lib.hid (hfm.out.trans (if_pos rfl))
        clear hk1
        go_wp2_with ((with_reducible show wpList _ _ _ (Oper.mk _ (Op.load 59 (.tmp 3)) _ _ _ _ :: _) _ _); refine wpList_load_row rfl 59 (.tmp 3) rfl (w.heap.size + 1) R _ rfl aR Tryd.underlying59 rfl iR ?_)
        with_reducible refine (h2.out _ hB.out).mono ?_
        rintro e w5 ⟨vm, v5, rfl, hA, hE, hb, hfr⟩
        obtain ⟨b1, d1, b2, d2, rfl⟩ := hA.shape
        obtain ⟨C, hC⟩ : ∃ C : Array Value, C = #[.slice b1 (askedM m x).1.its.length d1, .slice b2 (askedM m x).1.ens.length d2] := ⟨_, rfl⟩
        rw [← hC] at hA hfr ⊢
        have iC : (Tryd.prog.info? 56).map (·.size) = some C.size := by rw [hC]; kernel_rfl
        have zC : (#[.slice none 0 0, .slice none 0 0] : Array Value).size = C.size := by rw [hC]; rfl
        have h1C : C.all (·.oneCell') = true := by rw [hC]; simp [Value.oneCell']
        have aO5 := Lib.hid ((hb.block _ (block_lt aO.out)).trans aO.out)
        replace hB := Lib.hid (hB.out.trans (hb.mono hB.out.size))
        have hs5 := hs4.out
        replace hA := Lib.hid hA
        replace hE := Lib.hid hE
        replace hfr := Lib.hid hfr
        clear hC hb s0 s1 q0
        go_wp2_with ((with_reducible show wpList _ _ _ (Oper.mk _ (Op.store 56 (.tmp 4) _) _ _ _ _ :: _) _ _); (refine wpList_store_row rfl 56 (.tmp 4) (.tmp 27) rfl (w.heap.size + 2) _ C rfl rfl aO5 iC zC h1C ?_); intro w6 hU6)
        refine ret_cell_tmpB rfl rfl Tryd.underlying56 rfl iC hU6.out.here ?_
        rw [hfm.out]
        exact ⟨_, _, rfl, hA.out.upd hfr.out hU6.out (by omega), hE.out.updS hU6.out aO5.out (by decide), hB.out.trans (hU6.out.below (by omega)), hfr.out.mono (by omega)⟩

      · replace hfm := Lib.hid (hfm.out.trans (if_neg hk2))
        have hk2b : (kd == 2) = false := by simpa using hk2
        by_cases hk4 : kd = 4
        · subst hk4
          replace hfm := Lib.hid (hfm.out.trans (if_pos rfl))
          clear hk1 hk2
          go_wp2_with ((with_reducible show wpList _ _ _ (Oper.mk _ (Op.load 59 (.tmp 3)) _ _ _ _ :: _) _ _); refine wpList_load_row rfl 59 (.tmp 3) rfl (w.heap.size + 1) R _ rfl aR Tryd.underlying59 rfl iR ?_)
          with_reducible refine (h4.out _ hB.out).mono ?_
          rintro e w5 ⟨vm, v5, rfl, hA, hE, hb, hfr⟩
          obtain ⟨b1, d1, b2, d2, rfl⟩ := hA.shape
          obtain ⟨C, hC⟩ : ∃ C : Array Value, C = #[.slice b1 (keptM m x).1.its.length d1, .slice b2 (keptM m x).1.ens.length d2] := ⟨_, rfl⟩
          rw [← hC] at hA hfr ⊢
          have iC : (Tryd.prog.info? 56).map (·.size) = some C.size := by rw [hC]; kernel_rfl
          have zC : (#[.slice none 0 0, .slice none 0 0] : Array Value).size = C.size := by rw [hC]; rfl
          have h1C : C.all (·.oneCell') = true := by rw [hC]; simp [Value.oneCell']
          have aO5 := Lib.hid ((hb.block _ (block_lt aO.out)).trans aO.out)
          replace hB := Lib.hid (hB.out.trans (hb.mono hB.out.size))
          have hs5 := hs4.out
          replace hA := Lib.hid hA
          replace hE := Lib.hid hE
          replace hfr := Lib.hid hfr
          clear hC hb s0 s1 q0
          go_wp2_with ((with_reducible show wpList _ _ _ (Oper.mk _ (Op.store 56 (.tmp 4) _) _ _ _ _ :: _) _ _); (refine wpList_store_row rfl 56 (.tmp 4) (.tmp 34) rfl (w.heap.size + 2) _ C rfl rfl aO5 iC zC h1C ?_); intro w6 hU6)
          refine ret_cell_tmpB rfl rfl Tryd.underlying56 rfl iC hU6.out.here ?_
          rw [hfm.out]
          exact ⟨_, _, rfl, hA.out.upd hfr.out hU6.out (by omega), hE.out.updS hU6.out aO5.out (by decide), hB.out.trans (hU6.out.below (by omega)), hfr.out.mono (by omega)⟩

        · replace hfm := Lib.hid (hfm.out.trans (if_neg hk4))
          have hk4b : (kd == 4) = false := by simpa using hk4
          clear hk1 hk2 hk4
          go_wp2_with ((with_reducible show wpList _ _ _ (Oper.mk _ (Op.load 59 (.tmp 3)) _ _ _ _ :: _) _ _); refine wpList_load_row rfl 59 (.tmp 3) rfl (w.heap.size + 1) R _ rfl aR Tryd.underlying59 rfl iR ?_)
          with_reducible refine (h3.out _ hB.out).mono ?_
          rintro e w5 ⟨vm, v5, rfl, hA, hE, hb, hfr⟩
          obtain ⟨b1, d1, b2, d2, rfl⟩ := hA.shape
          obtain ⟨C, hC⟩ : ∃ C : Array Value, C = #[.slice b1 (judgedM m x).1.its.length d1, .slice b2 (judgedM m x).1.ens.length d2] := ⟨_, rfl⟩
          rw [← hC] at hA hfr ⊢
          have iC : (Tryd.prog.info? 56).map (·.size) = some C.size := by rw [hC]; kernel_rfl
          have zC : (#[.slice none 0 0, .slice none 0 0] : Array Value).size = C.size := by rw [hC]; rfl
          have h1C : C.all (·.oneCell') = true := by rw [hC]; simp [Value.oneCell']
          have aO5 := Lib.hid ((hb.block _ (block_lt aO.out)).trans aO.out)
          replace hB := Lib.hid (hB.out.trans (hb.mono hB.out.size))
          have hs5 := hs4.out
          replace hA := Lib.hid hA
          replace hE := Lib.hid hE
          replace hfr := Lib.hid hfr
          clear hC hb s0 s1 q0
          go_wp2_with ((with_reducible show wpList _ _ _ (Oper.mk _ (Op.store 56 (.tmp 4) _) _ _ _ _ :: _) _ _); (refine wpList_store_row rfl 56 (.tmp 4) (.tmp 39) rfl (w.heap.size + 2) _ C rfl rfl aO5 iC zC h1C ?_); intro w6 hU6)
          refine ret_cell_tmpB rfl rfl Tryd.underlying56 rfl iC hU6.out.here ?_
          rw [hfm.out]
          exact ⟨_, _, rfl, hA.out.upd hfr.out hU6.out (by omega), hE.out.updS hU6.out aO5.out (by decide), hB.out.trans (hU6.out.below (by omega)), hfr.out.mono (by omega)⟩

  · replace hfm := Lib.hid (hfm.out.trans (if_pos hN0))
    have hbt : (N0 != 0) = true := by simpa using hN0
    rw [hbt] at hu
    have hv := Lib.hid hv4
    have hs5 := hs4.out
    clear hv4 hN0
    go_wp2_with ((with_reducible show wpList _ _ _ (Oper.mk _ (Op.store 56 (.tmp 4) _) _ _ _ _ :: _) _ _); (refine wpList_store_row rfl 56 (.tmp 4) (.tmp 11) rfl (w.heap.size + 2) _ #[.slice none 0 0, .slice none 0 0] rfl rfl aO i0 rfl (by simp [Value.oneCell']) ?_); intro w6 hU6)
    refine ret_cell_tmpB rfl rfl Tryd.underlying56 rfl i0 hU6.out.here ?_
    rw [hfm.out]
    exact ⟨_, _, rfl, argS_nil _, hv.out.updS hU6.out aO.out (by decide), hB.out.trans (hU6.out.below (by omega)), freshS_nil _⟩
end Go.Proofs.YtpehdoepcpmnbaaDoor
