/- The walk over slices.IndexFunc at items, as ledger.State's Named asks it; Named. Out of n34/XFind (gen21.py). -/
import Derived.Test.YtpehdoepcpmnbaaDoorF13ModelOfSaid
import Derived.Test.YtpehdoepcpmnbaaDoorF11ModelOfSaid
namespace Go.Proofs.YtpehdoepcpmnbaaDoor
open Go.RowKit
set_option linter.unusedVariables false

theorem infoItS : (Tryd.prog.info? 93).map (·.size) = some 76 := by kernel_rfl
/-- The first place of a name, or -1. -/
def findI (ns : List It) (s : ByteArray) : Int := match ns.findIdx? (fun x => decide (x.s = s)) with
  | some i => (i : Int)
  | none => -1
theorem findI_hit {ns : List It} {s : ByteArray} {k : Nat} (hk : k < ns.length) (h : ∀ j (hj : j < ns.length), j < k → ns[j].s ≠ s) (he : ns[k].s = s) : findI ns s = (k : Int) := by
  have : ns.findIdx? (fun x => decide (x.s = s)) = some k := by
    rw [List.findIdx?_eq_some_iff_getElem]
    refine ⟨hk, by simpa using he, fun j hj => ?_⟩
    simpa using h j (by omega) hj
  unfold findI
  rw [this]
theorem findI_none {ns : List It} {s : ByteArray} (h : ∀ j (hj : j < ns.length), ns[j].s ≠ s) : findI ns s = -1 := by
  have : ns.findIdx? (fun x => decide (x.s = s)) = none := by
    rw [List.findIdx?_eq_none_iff]
    intro x hx
    obtain ⟨j, hj, rfl⟩ := List.getElem_of_mem hx
    simpa using h j hj
  unfold findI
  rw [this]
set_option maxHeartbeats 1000000 in
theorem named1_any (x : It) (X : Array Value) (hX : X = x.list.toArray) (b : Nat) (s : ByteArray) (w : World) (hb : w.cell? ⟨b, 0, none⟩ = some (.string s)) :
    Calls Tryd.prog 64 #[.agg X, .pointer (some ⟨b, 0, none⟩)] w fun r w' => r = .returned (.bool (decide (x.s = s))) ∧ Below w.heap.size w w' := by
  have hG : Below w.heap.size w (w.alloc (.cells X 93)) := (Below.refl _ _).alloc (Nat.le_refl _) _
  have k0 : (w.alloc (.cells X 93)).cell? ⟨w.heap.size, 1, none⟩ = some (.string x.s) := by rw [cell_of_block (heap_alloc_new w _)]; rw [hX]; rfl
  have k1 := cellAfter hb (.cells X 93)
  replace hG := Lib.hid hG
  obtain ⟨S, hS⟩ : ∃ S, S = x.s := ⟨_, rfl⟩
  rw [← hS] at k0 ⊢
  replace hS := Lib.hid hS
  clear hX hb
  by_cases he : S = s
  · subst he
    go_enter Tryd.func64, Tryd.ntmps64
    go_wp2_with fail
    go_ret
    exact ⟨by simp, hG.out⟩
  · have hd : decide (S = s) = false := decide_eq_false he
    rw [hd]
    go_enter Tryd.func64, Tryd.ntmps64
    go_wp2_with fail
    go_ret
    exact ⟨by rw [show (S.toList == s.toList) = false by rw [bytes_eq, hd]]; rfl, hG.out⟩

set_option maxRecDepth 100000 in
set_option maxHeartbeats 1000000 in
theorem indexI_any (a : Option Addr) (c : Nat) (ns : List It) (hok : ∀ x ∈ ns, x.Ok) (w : World) (h : RowAt It.list 76 w a ns) (hl : ns.length ≤ 1000000) (b : Nat) (s : ByteArray) (hb : w.cell? ⟨b, 0, none⟩ = some (.string s)) :
    Calls Tryd.prog 63 #[.slice a ns.length c, .func (.func 64) #[] #[.pointer (some ⟨b, 0, none⟩)]] w fun r w' => r = .returned (.int .i64 (findI ns s)) ∧ Below w.heap.size w w' := by
  have huN : Tryd.prog.underlying 93 = _ := Tryd.underlying93
  obtain ⟨q, hq⟩ : ∃ q, q = findI ns s := ⟨_, rfl⟩
  rw [← hq]
  obtain ⟨N, hN⟩ : ∃ N, N = ns.length := ⟨_, rfl⟩
  rw [← hN] at hl ⊢
  replace hN := Lib.hid hN
  replace hq := Lib.hid hq
  replace h := Lib.hid h
  replace hok := Lib.hid hok
  replace hb := Lib.hid hb
  go_enter Tryd.func63, Tryd.ntmps63
  go_wp2_with fail
  refine wp_loopF [(false, 4), (true, 2), (false, 2), (true, 11)] _ [] (fun U wr => ∃ k : Nat, k ≤ N ∧ U 8 = .int .i64 (k : Nat) ∧ Below w.heap.size w wr ∧ ∀ j (hj : j < ns.length), j < k → ns[j].s ≠ s) (fun U _ => N - (intOf (U 8)).toNat) ?_ ?_
  · simp only [List.getD_cons_zero, List.getD_cons_succ]
    exact ⟨0, Nat.zero_le _, rfl, Below.refl _ _, fun j _ hj => absurd hj (Nat.not_lt_zero _)⟩
  · intro U wr hrel KK hback l' hl'
    obtain ⟨k, hk, h8, hbw, hle⟩ := hrel
    simp only [fillS, popSeg, cond_true, cond_false, Nat.reduceAdd, h8] at hl'
    subst hl'
    replace h8 := Lib.hid h8
    replace hle := Lib.hid hle
    by_cases hlt : k < N
    · have hlt2 : (k : Int) < (N : Int) := by omega
      have hkN : k < ns.length := by rw [← hN.out]; exact hlt
      obtain ⟨b1, o1, rfl, hr1⟩ := h.out.below hbw (Nat.le_refl _) k hkN
      have ox := hok.out _ (List.getElem_mem hkN)
      have hhit := fun (e : ns[k].s = s) => findI_hit hkN hle.out e
      have hstep := fun (e : ns[k].s ≠ s) => show ∀ j (hj : j < ns.length), j < k + 1 → ns[j].s ≠ s from fun j hj hjk => by
        by_cases hjk2 : j < k
        · exact hle.out j hj hjk2
        · obtain rfl : j = k := by omega
          exact e
      generalize ns[k] = x at *
      obtain ⟨X, hX⟩ : ∃ X, X = x.list.toArray := ⟨_, rfl⟩
      have ix : (Tryd.prog.info? 93).map (·.size) = some x.list.length := by rw [It.list_length ox]; exact infoItS
      have hcall := named1_any x X hX b s wr ((hbw.cell (World.block_lt_of_cell? w _ hb.out)).trans hb.out)
      have hsz := hbw.size
      replace hX := Lib.hid hX
      replace hr1 := Lib.hid hr1
      replace hbw := Lib.hid hbw
      replace hhit := Lib.hid hhit
      replace hstep := Lib.hid hstep
      replace ox := Lib.hid ox
      by_cases he : x.s = s
      · have hqk : q = (k : Int) := by rw [hq.out]; exact hhit.out he
        rw [decide_eq_true he] at hcall
        replace hcall := Lib.hid hcall
        subst hqk
        replace he := Lib.hid he
        clear hq
        go_wp2_with (refine wpList_load_mid rfl 93 (.tmp 14) rfl b1 (o1 + k * 76) rfl x.list _ hr1.out huN rfl ix ?_; rw [← hX.out])
        with_reducible refine hcall.out.mono ?_
        rintro e w2 ⟨rfl, hb2⟩
        have hbf := Lib.hid (hbw.out.trans (hb2.mono hsz))
        go_wp2_with fail
        go_ret
        exact ⟨rfl, hbf.out⟩
      · rw [decide_eq_false he] at hcall
        replace hcall := Lib.hid hcall
        replace he := Lib.hid he
        go_wp2_with (refine wpList_load_mid rfl 93 (.tmp 14) rfl b1 (o1 + k * 76) rfl x.list _ hr1.out huN rfl ix ?_; rw [← hX.out])
        with_reducible refine hcall.out.mono ?_
        rintro e w2 ⟨rfl, hb2⟩
        have hbf := Lib.hid (hbw.out.trans (hb2.mono hsz))
        go_wp2_with fail
        refine hback.out _ _ (by kernel_rfl) ?_ ?_
        · simp only [List.getD_cons_zero, List.getD_cons_succ]
          exact ⟨k + 1, by omega, by go_num, hbf.out, hstep.out he.out⟩
        · have h8 := h8.out
          simp only [List.getD_cons_zero, List.getD_cons_succ, h8, intOf]
          omega
    · obtain rfl : k = N := by omega
      have hqn : q = -1 := by rw [hq.out]; exact findI_none (fun j hj => hle.out j hj (by rw [hN.out]; exact hj))
      subst hqn
      replace hbw := Lib.hid hbw
      clear hq
      go_wp2_with fail
      go_ret
      exact ⟨rfl, hbw.out⟩
/-- What Named answers. -/
def namedS (ns : List It) (s : ByteArray) : It × Bool := match ns.findIdx? (fun x => decide (x.s = s)) with
  | some i => (ns.getD i default, true)
  | none => (default, false)
theorem three_boxes (w : World) (C D E : Array Value) (t u v : TypeId) (W : World) (hW : W = ((w.alloc (.cells C t)).alloc (.cells D u)).alloc (.cells E v)) :
    W.heap[w.heap.size]? = some (.cells C t (0, 0)) ∧ W.heap[w.heap.size + 1]? = some (.cells D u (0, 0)) ∧ W.heap[w.heap.size + 2]? = some (.cells E v (0, 0)) ∧ W.heap.size = w.heap.size + 3 ∧ Below w.heap.size w W := by
  obtain ⟨h1, h2, h3, h4⟩ := two_boxes w C D t u _ rfl
  subst hW
  refine ⟨alloc_keep2 h1 _, alloc_keep2 h2 _, ?_, by simp, h4.alloc (by omega) _⟩
  have h := heap_alloc_new ((w.alloc (.cells C t)).alloc (.cells D u)) (.cells E v (0, 0))
  rw [h3] at h
  exact h
set_option maxRecDepth 100000 in
set_option maxHeartbeats 1000000 in
theorem named_any (va : Value) (m : St) (w : World) (ha : ArgS w va m) (hl : m.its.length ≤ 1000) (s : ByteArray) :
    Calls Tryd.prog 50 #[va, .string s] w fun x w' => x = .returned (.tuple #[.agg (namedS m.its s).1.list.toArray, .bool (namedS m.its s).2]) ∧ Below w.heap.size w w' := by
  have hit : ∀ W, Below w.heap.size w W → Calls Tryd.prog 52 #[va, .int .i64 (findI m.its s)] W fun x w' => x = .returned (.tuple #[.agg (namedS m.its s).1.list.toArray, .bool (namedS m.its s).2]) ∧ Below W.heap.size W w' := by
    intro W hW
    have ha2 := ha.below hW (Nat.le_refl _)
    unfold findI namedS
    cases hf : m.its.findIdx? (fun x => decide (x.s = s)) with
    | none => exact item_out va m W ha2 (-1) (by omega) hl
    | some i =>
      have hi : i < m.its.length := (List.findIdx?_eq_some_iff_getElem.1 hf).1
      have := item_in va m W ha2 i hi hl
      simp only [List.getD_eq_getElem?_getD, List.getElem?_eq_getElem hi, Option.getD_some]
      exact this
  have hok : (namedS m.its s).1.Ok := by
    obtain ⟨_, okN, _⟩ := ha
    have hd : (default : It).Ok := ⟨by decide, by decide, ⟨by decide, by decide, by decide, by decide, by decide, by decide⟩, rfl, rfl, by decide, by decide, by decide⟩
    unfold namedS
    cases hf : m.its.findIdx? (fun x => decide (x.s = s)) with
    | none => exact hd
    | some i =>
      have hi : i < m.its.length := (List.findIdx?_eq_some_iff_getElem.1 hf).1
      simp only [List.getD_eq_getElem?_getD, List.getElem?_eq_getElem hi, Option.getD_some]
      exact okN _ (List.getElem_mem hi)
  have hix : ∀ W b, Below w.heap.size w W → W.cell? ⟨b, 0, none⟩ = some (.string s) → ∀ an cn, (∃ av cv V, va = .agg #[.slice an m.its.length cn, .slice av V cv]) → Calls Tryd.prog 63 #[.slice an m.its.length cn, .func (.func 64) #[] #[.pointer (some ⟨b, 0, none⟩)]] W fun r w' => r = .returned (.int .i64 (findI m.its s)) ∧ Below W.heap.size W w' := by
    intro W b hW hb an cn ⟨av, cv, V, e⟩
    obtain ⟨⟨a, c, a', c', e2, h1, _⟩, okN, _⟩ := ha.below hW (Nat.le_refl _)
    rw [e] at e2
    cases e2
    exact indexI_any an cn m.its okN W h1 (by omega) b s hb
  obtain ⟨⟨an, cn, av, cv, rfl, hN, hN1, hN2, hV, hV1, hV2⟩, okN, okV⟩ := ha
  have hix2 := fun W b h1 h2 => hix W b h1 h2 an cn ⟨av, cv, _, rfl⟩
  generalize findI m.its s = q at *
  generalize (namedS m.its s).2 = kn at *
  obtain ⟨XA, hXA⟩ : ∃ XA, XA = (namedS m.its s).1.list.toArray := ⟨_, rfl⟩
  have iA : (Tryd.prog.info? 93).map (·.size) = some XA.size := by rw [hXA, It.size hok]; kernel_rfl
  have zA : (Tryd.zeroCells93).size = XA.size := by rw [hXA, It.size hok]; kernel_rfl
  have h1A : XA.all (·.oneCell') = true := by rw [hXA]; exact It.all_one _
  rw [← hXA] at hit ⊢
  have hu := Tryd.underlying93
  obtain ⟨N, hNl⟩ : ∃ N, N = m.its.length := ⟨_, rfl⟩
  obtain ⟨V, hVl⟩ : ∃ V, V = m.ens.length := ⟨_, rfl⟩
  rw [← hNl, ← hVl] at hit
  rw [← hNl] at hix2
  rw [← hNl, ← hVl]
  obtain ⟨a1, a2, a3, hs3, hB⟩ := three_boxes w #[.slice an N cn, .slice av V cv] #[.string s] Tryd.zeroCells93 56 9 93 _ rfl
  obtain ⟨w3, hw3⟩ : ∃ w3, w3 = ((w.alloc (.cells #[.slice an N cn, .slice av V cv] 56)).alloc (.cells #[.string s] 9)).alloc (.cells Tryd.zeroCells93 93) := ⟨_, rfl⟩
  have e10 := cell_of_block a1 0
  rw [← hw3] at a1 a2 a3 hs3 hB
  replace hw3 := Lib.hid hw3
  replace hit := Lib.hid hit
  replace hix2 := Lib.hid hix2
  replace a1 := Lib.hid a1
  replace a2 := Lib.hid a2
  replace a3 := Lib.hid a3
  replace hB := Lib.hid hB
  replace hs3 := Lib.hid hs3
  clear hix hN hV hN1 hN2 hV1 hV2 okN okV hXA hok hNl hVl hl
  go_enter Tryd.func50, Tryd.ntmps50
  go_wp2_with fail
  rw [← hw3.out]
  with_reducible refine (hix2.out w3 (w.heap.size + 1) hB.out (by rw [cell_of_block a2.out]; simp)).mono ?_
  rintro e w4 ⟨rfl, hb⟩
  have b1 := (hb.block _ (block_lt a1.out)).trans a1.out
  have b3 := Lib.hid ((hb.block _ (block_lt a3.out)).trans a3.out)
  have f0 := cell_of_block b1 0
  have f1 := cell_of_block b1 1
  have hB4 := Lib.hid (hB.out.trans (hb.mono hB.out.size))
  clear b1 hb e10
  go_wp2_with fail
  with_reducible refine (hit.out w4 hB4.out).mono ?_
  rintro e w5 ⟨rfl, hb⟩
  have c3 := Lib.hid ((hb.block _ (block_lt b3.out)).trans b3.out)
  have hB5 := Lib.hid (hB4.out.trans (hb.mono hB4.out.size))
  clear hb f0 f1
  go_wp2_with ((with_reducible show wpList _ _ _ (Oper.mk _ (Op.store 93 (.tmp 4) _) _ _ _ _ :: _) _ _); (refine wpList_store_row rfl 93 (.tmp 4) (.tmp 14) rfl (w.heap.size + 2) _ XA rfl rfl c3 iA zA h1A ?_); intro w6 hU6)
  refine ret_cell_tmpB rfl rfl hu rfl iA hU6.out.here ?_
  exact ⟨rfl, hB5.out.trans (hU6.out.below (by omega))⟩
end Go.Proofs.YtpehdoepcpmnbaaDoor
