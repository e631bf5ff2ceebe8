/- Find, RetTmp. -/
import Derived.Test.YtpehdoepcpmnbaaDoorF10ModelOfSaid
import Derived.Test.YtpehdoepcpmnbaaDoorF5ModelOfSaid
/- The walk over slices.IndexFunc at names, as model.Put asks it. -/
namespace Go.Proofs.YtpehdoepcpmnbaaDoor
open Go.RowKit

/-- The first place of a name, or -1. -/
def findS (ns : List Nm) (s : ByteArray) : Int := match ns.findIdx? (fun x => decide (x.s = s)) with
  | some i => (i : Int)
  | none => -1
theorem findS_hit {ns : List Nm} {s : ByteArray} {k : Nat} (hk : k < ns.length) (h : ∀ j (hj : j < ns.length), j < k → ns[j].s ≠ s) (he : ns[k].s = s) : findS ns s = (k : Int) := by
  have : ns.findIdx? (fun x => decide (x.s = s)) = some k := by
    rw [List.findIdx?_eq_some_iff_getElem]
    refine ⟨hk, by simpa using he, fun j hj => ?_⟩
    simpa using h j (by omega) hj
  unfold findS
  rw [this]
theorem findS_none {ns : List Nm} {s : ByteArray} (h : ∀ j (hj : j < ns.length), ns[j].s ≠ s) : findS ns s = -1 := by
  have : ns.findIdx? (fun x => decide (x.s = s)) = none := by
    rw [List.findIdx?_eq_none_iff]
    intro x hx
    obtain ⟨j, hj, rfl⟩ := List.getElem_of_mem hx
    simpa using h j hj
  unfold findS
  rw [this]
theorem bytes_eq (a b : ByteArray) : (a.toList == b.toList) = decide (a = b) := by
  rw [← beq_toListBytes, Bool.eq_iff_iff, decide_eq_true_iff]
  have h : (a == b) = (a.data == b.data) := rfl
  rw [h, beq_iff_eq]
  exact ⟨fun e => by cases a; cases b; exact congrArg _ e, fun e => by rw [e]⟩
set_option maxHeartbeats 1000000 in
theorem put1_any (x : Nm) (X : Array Value) (hX : X = x.list.toArray) (b : Nat) (s : ByteArray) (w : World) (hb : w.cell? ⟨b, 0, none⟩ = some (.string s)) :
    Calls Tryd.prog 40 #[.agg X, .pointer (some ⟨b, 0, none⟩)] w fun r w' => r = .returned (.bool (decide (x.s = s))) ∧ Below w.heap.size w w' := by
  have hG : Below w.heap.size w (w.alloc (.cells X 78)) := (Below.refl _ _).alloc (Nat.le_refl _) _
  have k0 : (w.alloc (.cells X 78)).cell? ⟨w.heap.size, 0, none⟩ = some (.string x.s) := by rw [cell_of_block (heap_alloc_new w _)]; rw [hX]; rfl
  have k1 := cellAfter hb (.cells X 78)
  replace hG := Lib.hid hG
  obtain ⟨S, hS⟩ : ∃ S, S = x.s := ⟨_, rfl⟩
  rw [← hS] at k0 ⊢
  replace hS := Lib.hid hS
  clear hX hb
  by_cases he : S = s
  · subst he
    go_enter Tryd.func40, Tryd.ntmps40
    go_wp2_with fail
    go_ret
    exact ⟨by simp, hG.out⟩
  · have hd : decide (S = s) = false := decide_eq_false he
    rw [hd]
    go_enter Tryd.func40, Tryd.ntmps40
    go_wp2_with fail
    go_ret
    exact ⟨by rw [show (S.toList == s.toList) = false by rw [bytes_eq, hd]]; rfl, hG.out⟩

set_option maxRecDepth 100000 in
set_option maxHeartbeats 1000000 in
theorem indexN_any (a : Option Addr) (c : Nat) (ns : List Nm) (hok : ∀ x ∈ ns, x.Ok) (w : World) (h : RowAt Nm.list 40 w a ns) (hl : ns.length ≤ 1000000) (b : Nat) (s : ByteArray) (hb : w.cell? ⟨b, 0, none⟩ = some (.string s)) :
    Calls Tryd.prog 39 #[.slice a ns.length c, .func (.func 40) #[] #[.pointer (some ⟨b, 0, none⟩)]] w fun r w' => r = .returned (.int .i64 (findS ns s)) ∧ Below w.heap.size w w' := by
  have huN : Tryd.prog.underlying 78 = _ := Tryd.underlying78
  obtain ⟨q, hq⟩ : ∃ q, q = findS ns s := ⟨_, rfl⟩
  rw [← hq]
  obtain ⟨N, hN⟩ : ∃ N, N = ns.length := ⟨_, rfl⟩
  rw [← hN] at hl ⊢
  replace hN := Lib.hid hN
  replace hq := Lib.hid hq
  replace h := Lib.hid h
  replace hok := Lib.hid hok
  replace hb := Lib.hid hb
  go_enter Tryd.func39, Tryd.ntmps39
  go_wp2_with fail
  refine wp_loopF [(false, 4), (true, 2), (false, 2), (true, 11)] _ [] (fun U wr => ∃ k : Nat, k ≤ N ∧ U 8 = .int .i64 (k : Nat) ∧ Below w.heap.size w wr ∧ ∀ j (hj : j < ns.length), j < k → ns[j].s ≠ s) (fun U _ => N - (intOf (U 8)).toNat) ?_ ?_
  · simp only [List.getD_cons_zero, List.getD_cons_succ]
    exact ⟨0, Nat.zero_le _, rfl, Below.refl _ _, fun j _ hj => absurd hj (Nat.not_lt_zero _)⟩
  · intro U wr hrel KK hback l' hl'
    obtain ⟨k, hk, h8, hbw, hle⟩ := hrel
    simp only [fillS, popSeg, cond_true, cond_false, Nat.reduceAdd, h8] at hl'
    subst hl'
    replace h8 := Lib.hid h8
    replace hle := Lib.hid hle
    by_cases hlt : k < N
    · have hlt2 : (k : Int) < (N : Int) := by omega
      have hkN : k < ns.length := by rw [← hN.out]; exact hlt
      obtain ⟨b1, o1, rfl, hr1⟩ := h.out.below hbw (Nat.le_refl _) k hkN
      have ox := hok.out _ (List.getElem_mem hkN)
      have hhit := fun (e : ns[k].s = s) => findS_hit hkN hle.out e
      have hstep := fun (e : ns[k].s ≠ s) => show ∀ j (hj : j < ns.length), j < k + 1 → ns[j].s ≠ s from fun j hj hjk => by
        by_cases hjk2 : j < k
        · exact hle.out j hj hjk2
        · obtain rfl : j = k := by omega
          exact e
      generalize ns[k] = x at *
      obtain ⟨X, hX⟩ : ∃ X, X = x.list.toArray := ⟨_, rfl⟩
      have ix : (Tryd.prog.info? 78).map (·.size) = some x.list.length := by rw [Nm.list_length ox.f]; exact infoNm
      have hcall := put1_any x X hX b s wr ((hbw.cell (World.block_lt_of_cell? w _ hb.out)).trans hb.out)
      have hsz := hbw.size
      replace hX := Lib.hid hX
      replace hr1 := Lib.hid hr1
      replace hbw := Lib.hid hbw
      replace hhit := Lib.hid hhit
      replace hstep := Lib.hid hstep
      replace ox := Lib.hid ox
      by_cases he : x.s = s
      · have hqk : q = (k : Int) := by rw [hq.out]; exact hhit.out he
        rw [decide_eq_true he] at hcall
        replace hcall := Lib.hid hcall
        subst hqk
        replace he := Lib.hid he
        clear hq
        go_wp2_with (refine wpList_load_mid rfl 78 (.tmp 14) rfl b1 (o1 + k * 40) rfl x.list _ hr1.out huN rfl ix ?_; rw [← hX.out])
        with_reducible refine hcall.out.mono ?_
        rintro e w2 ⟨rfl, hb2⟩
        have hbf := Lib.hid (hbw.out.trans (hb2.mono hsz))
        go_wp2_with fail
        go_ret
        exact ⟨rfl, hbf.out⟩
      · rw [decide_eq_false he] at hcall
        replace hcall := Lib.hid hcall
        replace he := Lib.hid he
        go_wp2_with (refine wpList_load_mid rfl 78 (.tmp 14) rfl b1 (o1 + k * 40) rfl x.list _ hr1.out huN rfl ix ?_; rw [← hX.out])
        with_reducible refine hcall.out.mono ?_
        rintro e w2 ⟨rfl, hb2⟩
        have hbf := Lib.hid (hbw.out.trans (hb2.mono hsz))
        go_wp2_with fail
        refine hback.out _ _ (by kernel_rfl) ?_ ?_
        · simp only [List.getD_cons_zero, List.getD_cons_succ]
          exact ⟨k + 1, by omega, by go_num, hbf.out, hstep.out he.out⟩
        · have h8 := h8.out
          simp only [List.getD_cons_zero, List.getD_cons_succ, h8, intOf]
          omega
    · obtain rfl : k = N := by omega
      have hqn : q = -1 := by rw [hq.out]; exact findS_none (fun j hj => hle.out j hj (by rw [hN.out]; exact hj))
      subst hqn
      replace hbw := Lib.hid hbw
      clear hq
      go_wp2_with fail
      go_ret
      exact ⟨rfl, hbw.out⟩
end Go.Proofs.YtpehdoepcpmnbaaDoor
/- Two results: a struct or an array that lies in a block, and one that lies in a slot. -/
namespace Go.Proofs.YtpehdoepcpmnbaaDoor
open Go.RowKit
section
variable {P : Program} {fn : Func} {R : Ending → World → Prop} {p q : Tmp} {ty : TypeId}
theorem results_cell_tmpB (h : fn.results = #[.cell p ty, .tmp q]) (tmps : Array Value) (w : World) :
    (results fn tmps).run P w = ((asAddr (tmps.getD p undef)).run P w).andThen fun a w₁ => ((loadVar ty a).run P w₁).andThen fun v w₂ => .ok (.tuple #[v, tmps.getD q undef]) w₂ := by
  simp [results, h, Sem.run_bind, Result.andThen]
theorem ret_cell_tmpB {tmps : Array Value} {W : World} {b : Nat} {c : Array Value} {d : TypeDesc} (h : fn.results = #[.cell p ty, .tmp q])
    (hp : tmps.getD p undef = .pointer (some ⟨b, 0, none⟩)) (hu : P.underlying ty = some d) (hd : (match d with | .struct _ | .array _ _ => true | _ => false) = true) (hi : (P.info? ty).map (·.size) = some c.size) (hh : W.heap[b]? = some (.cells c ty (0, 0))) (hR : R (.returned (.tuple #[.agg c, tmps.getD q undef])) W) :
    bodyPost P fn R .ret ⟨tmps, []⟩ W := by
  refine bodyPost_ret (v := .tuple #[.agg c, tmps.getD q undef]) ?_ rfl hR
  rw [results_cell_tmpB h, hp]
  simp [asAddr, Result.andThen, run_loadVar_row W b ty ty c (0, 0) d hh hu hd hi]
end
/-- A sentinel lies in its variable. -/
def SentAt (g : Nat) (w : World) (z : Addr) : Prop := w.cell? ⟨g, 0, none⟩ = some (.iface 177 (.pointer (some z)))
theorem SentAt.below {g : Nat} {w w' : World} {z : Addr} (h : SentAt g w z) (hb : Below w.heap.size w w') : SentAt g w' z := (hb.cell (World.block_lt_of_cell? w _ h)).trans h
theorem SentAt.far {g : Nat} {w : World} {z : Addr} (h : SentAt g w z) : ∀ W, Below w.heap.size w W → W.cell? ⟨g, 0, none⟩ = some (.iface 177 (.pointer (some z))) := fun _ hW => h.below hW
end Go.Proofs.YtpehdoepcpmnbaaDoor
