/- Walks over the reference's disk: New, done. -/
import Derived.Test.YtdgilgnaoifpcaaDoorRefD
import Derived.Test.YtdgilgnaoifpcaaDoorOnL
import Derived.Test.YtdgilgnaoifpcaaDoorOnL
namespace Go.Proofs.YtdgilgnaoifpcaaDoor
open Go.RowKit

theorem infoBR : (Tryd.prog.info? 36).map (fun i => (i.zero.map (·.cells.size), i.size, i.bytes)) = some (some 1, 1, 24) := by kernel_rfl
theorem infoWtR : (Tryd.prog.info? 77).map (fun i => (i.zero.map (·.cells.size), i.size, i.bytes)) = some (some 2, 2, 32) := by kernel_rfl
theorem RefD.below {base : Nat} {w w' : World} {R : Nat} {va vw : Value} {F : Nat → Prop} {n : Nat} {p : DP} {rl : Int} (h : RefD base w R va vw F n p rl) (hb : Below w.heap.size w w') : RefD base w' R va vw F n p rl :=
  h.only (Only.ofBelow (D := fun _ => False) hb) (fun h => h) (fun _ _ h => h) (fun _ _ h => h) (fun _ _ h => h)
theorem rb_lit {w : World} {X : Nat} {T : TypeId} {F : Nat → Prop} (h : w.heap[X]? = some (.cells (cB zSec).toArray T (0, 0))) (hF : F X) : RB w F zSec [.slice (some ⟨X, 0, none⟩) 64 64] := by
  refine ⟨some ⟨X, 0, none⟩, 64, rfl, ⟨by decide, by decide, (fun e => by cases e), fun i hi => ⟨_, _, rfl, ?_⟩⟩, fun b o s e => by cases e; exact hF⟩
  rw [cell_of_block h]
  generalize zSec = z at *
  simp [cB, hi]
/-- The row of sectors of a new disk has grown. -/
theorem RefD.more {base : Nat} {w w7 w8 : World} {R : Nat} {va v' : Value} {F : Nat → Prop} {k X : Nat} {m : Int} (h : RefD base w R va (.slice none 0 0) F k (DP.new m) 0) (hr : RowsOf RB 36 1 base w7 (fun j => F j ∨ j = X) v' (secs k (DP.new m).f ++ [zSec])) (hO : Only (fun j => va.ownBlock = some j) w w7) (hM : Moved w va v')
    (hX : X ≠ R) (hU : Upd R (.cells (rcells v' (.slice none 0 0) false 0 false) 51 (0, 0)) w7 w8) : RefD base w8 R v' (.slice none 0 0) (fun j => F j ∨ j = X) (k + 1) (DP.new m) 0 := by
  have hOR : Only (fun k => k = R) w7 w8 := Only.ofUpd hU rfl
  have hRl := block_lt h.at_
  have hFR : ¬ (F R ∨ R = X) := fun e => e.elim h.fR (fun e => hX e.symm)
  have hv' : ∀ j, v'.ownBlock = some j → j ≠ R := fun j hj e => by
    subst e
    rcases hM j hj with e | e
    · exact h.aR j e rfl
    · omega
  refine ⟨hU.here, ?_, ?_, hFR, hv', fun j hj => (by cases hj), fun q hq => (by cases hq), h.flen, h.left, h.range⟩
  · rw [secs_succ]
    exact hr.only liesRB hOR (fun j hj e => hFR (e ▸ hj)) hv'
  · have := (RowsOf.nil (R := RWt) (e := 77) (size := 2) base w8).more liesRWt (F' := fun j => F j ∨ j = X) (fun _ h => False.elim h) (fun j hj => by cases hj) (fun j hj => Nat.lt_of_lt_of_le (hr.lt j hj) hOR.size)
    exact this

set_option maxRecDepth 100000 in
set_option maxHeartbeats 2000000 in
theorem rnew_any (n : Nat) (hn : n ≤ 2048) (w : World) :
    Calls Tryd.prog 14 #[.int .i64 n] w fun x w' => ∃ R S, x = .returned (.pointer (some ⟨R, 0, none⟩)) ∧ RM w.heap.size w' R n (DP.new n) S ∧ Below w.heap.size w w' := by
  have hmk : ∀ w : World, (Instr.makeSlice 36 (.int .i64 64) (.int .i64 64)).run Tryd.prog w = .ok (.slice (some ⟨w.heap.size, 0, none⟩) 64 64) (w.alloc (.cells (cB zSec).toArray 5)) := fun _ => by kernel_rfl
  obtain ⟨w1, hw1⟩ : ∃ w1, w1 = w.alloc (.cells (rcells (.slice none 0 0) (.slice none 0 0) false 0 false) 51) := ⟨_, rfl⟩
  have hG1 : Below w.heap.size w w1 := by rw [hw1]; exact (Below.refl _ _).alloc (Nat.le_refl _) _
  have hat1 : w1.heap[w.heap.size]? = some (.cells (rcells (.slice none 0 0) (.slice none 0 0) false 0 false) 51 (0, 0)) := by rw [hw1]; exact heap_alloc_new w _
  have hR1 : RefD w.heap.size w1 w.heap.size (.slice none 0 0) (.slice none 0 0) (fun _ => False) 0 (DP.new n) 0 :=
    ⟨hat1, RowsOf.nil _ _, RowsOf.nil _ _, fun h => h, fun k hk => (by cases hk), fun k hk => (by cases hk), fun q hq => (by cases hq), fun _ => (by simp [DP.new, zSec]), (fun h => (by cases h)), by decide⟩
  have hbnd : (n : Int) ≤ 2048 := by omega
  replace hat1 := Lib.hid hat1
  replace hR1 := Lib.hid hR1
  replace hG1 := Lib.hid hG1
  unfold rcells at hw1
  replace hw1 := Lib.hid hw1
  have hinfo := Lib.hid infoBR
  generalize hRR : w.heap.size = R at *
  go_enter Tryd.func14, Tryd.ntmps14
  go_wp2_with fail
  rw [← hw1.out]
  go_loopw [7, 8, 9, 12, 13, 14, 15, 16, 17, 18, 19, 20, 21, 10, 11, 4] (fun _ _ _ _ _ _ _ _ _ _ _ _ _ _ _ j wr => ∃ (k : Nat) (va : Value) (F : Nat → Prop), k ≤ n ∧ j = .int .i64 k ∧ RefD R wr R va (.slice none 0 0) F k (DP.new n) 0 ∧ (∀ k, F k → R ≤ k) ∧ Below R w wr) (fun _ _ _ _ _ _ _ _ _ _ _ _ _ _ _ j _ => n - (intOf j).toNat)
  case atStart => exact ⟨0, _, _, Nat.zero_le _, rfl, hR1.out, fun _ h => False.elim h, hG1.out⟩
  case round =>
    obtain ⟨k, va, F, hk, rfl, hR, hF, hb⟩ := hrel
    clear hat1 hR1 hw1 hG1
    by_cases hlt : k < n
    · have hlt2 : (k : Int) < n := by omega
      have hRd : RefD R wr.drew R va (.slice none 0 0) F k (DP.new n) 0 := hR.below (Drawn.below ⟨1, rfl⟩ _)
      obtain ⟨a, c, e, _⟩ := hR.all.form
      rw [secs_length] at e
      subst e
      have c0 : wr.drew.cell? ⟨R, 0, none⟩ = some (.slice a k c) := by rw [hRd.c]; rfl
      have hRl := block_lt hRd.at_
      have hRs : R ≤ wr.drew.heap.size := by omega
      have hb0 : Below R w wr.drew := hb.drew
      have hkl : (secs k (DP.new n).f).length ≤ 1000000 := by rw [secs_length]; omega
      replace hkl := Lib.hid hkl
      replace hR := Lib.hid hR
      replace hRd := Lib.hid hRd
      replace hF := Lib.hid hF
      replace hb := Lib.hid hb
      replace hb0 := Lib.hid hb0
      go_wp2_with fail
      refine wp_region_held_drew (S := (fun _ : World => True)) (by kernel_rfl) True.intro (fun hOn => ?_)
      generalize World.drew wr = wd at *
      refine wpAnyH_take (i := 0) (v := ?_) (by simp only [List.getElem?_toArray, List.getElem?_cons_zero]; rfl) (by kernel_rfl) (by kernel_rfl) (by kernel_rfl) (by exact fun _ _ _ h => h) (Or.inl ⟨by rfl, ?_⟩) hOn ?_
      rotate_left
      focus (intro W hSW; go_simp; try with_reducible rfl)
      try simp only [Act.put, List.setIfInBounds_toArray, List.set_cons_zero, List.set_cons_succ]
      refine wpAnyH_take (i := 1) (v := ?_) (by simp only [List.getElem?_toArray, List.getElem?_cons_succ, List.getElem?_cons_zero]; rfl) (by kernel_rfl) (by kernel_rfl) (by kernel_rfl) (by exact fun _ _ _ h => h) (Or.inl ⟨by rfl, ?_⟩) hOn ?_
      rotate_left
      focus (intro W hSW; go_simp; try with_reducible rfl)
      try simp only [Act.put, List.setIfInBounds_toArray, List.set_cons_zero, List.set_cons_succ]
      refine wpAnyH_take (i := 2) (v := ?_) (by simp only [List.getElem?_toArray, List.getElem?_cons_succ, List.getElem?_cons_zero]; rfl) (by kernel_rfl) (by kernel_rfl) (by kernel_rfl) (by exact fun _ _ _ h => h) (Or.inl ⟨by rfl, ?_⟩) hOn ?_
      rotate_left
      focus (intro W hSW; go_simp; try with_reducible rfl)
      try simp only [Act.put, List.setIfInBounds_toArray, List.set_cons_zero, List.set_cons_succ]
      refine wpAnyH_take (i := 3) (v := ?_) (by simp only [List.getElem?_toArray, List.getElem?_cons_succ, List.getElem?_cons_zero]; rfl) (by kernel_rfl) (by kernel_rfl) (by kernel_rfl) (by exact fun _ _ _ h => h) (Or.inl ⟨by rfl, ?_⟩) hOn ?_
      rotate_left
      focus (intro W hSW; go_simp; try with_reducible rfl)
      try simp only [Act.put, List.setIfInBounds_toArray, List.set_cons_zero, List.set_cons_succ]
      refine wpAnyH_ready (rs := [4, 5]) (by kernel_rfl) (by simp) ?_
      refine AllReadyH.cons (by simp only [List.getElem?_toArray, List.getElem?_cons_succ, List.getElem?_cons_zero]; rfl) (fun Kz hKz => ?_) ?_
      go_simp
      focus (try go_wp2_with fail)
      refine hKz.out _ _ (by first | exact hOn | exact Grown.alloc hOn _ | exact Below.alloc hOn (Below.size hOn) _ | exact Grown.alloc (Grown.refl _) _) (fun hNext => ?_)
      clear hKz Kz hOn
      have hOn := hNext
      clear hNext
      try simp only [Act.put, List.setIfInBounds_toArray, List.set_cons_zero, List.set_cons_succ]
      refine wpAnyH_ready (rs := [5]) (by kernel_rfl) (by simp) ?_
      refine AllReadyH.cons (by simp only [List.getElem?_toArray, List.getElem?_cons_succ, List.getElem?_cons_zero]; rfl) (fun Kz hKz => ?_) AllReadyH.nil
      go_simp
      focus (try go_wp2_with fail)
      (with_reducible refine made_step (t := 5) ?_)
      intro w5 hx5 hnew
      have hS := True.intro
      have hR5 := Lib.hid (hRd.out.below hnew)
      have hb5 := Lib.hid (hb0.out.trans (hnew.mono hRs))
      have c5 : w5.cell? ⟨R, 0, none⟩ = some (.slice a k c) := (by rw [hR5.out.c]; rfl)
      have hs5 := hnew.size
      refine hKz.out _ _ (by first | exact hS | exact Below.trans hOn (Below.mono hnew (Below.size hOn))) (fun hNext => ?_)
      clear hKz Kz hOn
      have hOn := hNext
      clear hNext
      try clear hnew
      try clear hS
      try simp only [Act.put, List.setIfInBounds_toArray, List.set_cons_zero, List.set_cons_succ]
      refine wpAnyH_ready (rs := [6]) (by kernel_rfl) (by simp) ?_
      refine AllReadyH.cons (by simp only [List.getElem?_toArray, List.getElem?_cons_succ, List.getElem?_cons_zero]; rfl) (fun Kz hKz => ?_) AllReadyH.nil
      go_simp
      focus (try go_wp2_with fail)
      (with_reducible refine made_step (t := 36) ?_)
      intro w6 hx6 hnew
      have hS := True.intro
      have hR6 := Lib.hid (hR5.out.below hnew)
      have hb6 := Lib.hid (hb5.out.trans (hnew.mono (by omega)))
      have c6 : w6.cell? ⟨R, 0, none⟩ = some (.slice a k c) := (by rw [hR6.out.c]; rfl)
      have hx5' := Lib.hid ((hnew.block _ (block_lt hx5.out)).trans hx5.out)
      have hs6 := hnew.size
      have hXl := block_lt hx5.out
      have hrow6 := Lib.hid hR6.out.all
      have hap6 : Hid (∀ j, (Value.slice a k c).ownBlock = some j → ¬ (F j ∨ j = wd.heap.size)) := Lib.hid (fun j hj h => h.elim (fun h => hRd.out.all.apart j hj h) (fun e => Nat.ne_of_lt (hRd.out.all.ownLt j hj).2 e))
      have hlt6 : Hid (∀ j, F j ∨ j = wd.heap.size → j < w6.heap.size) := Lib.hid (fun j h => h.elim (fun h => Nat.lt_of_lt_of_le (hRd.out.all.lt j h) (Nat.le_trans hs5 hs6)) (fun e => (by omega)))
      refine hKz.out _ _ (by first | exact hS | exact Below.trans hOn (Below.mono hnew (Below.size hOn))) (fun hNext => ?_)
      clear hKz Kz hOn
      have hOn := hNext
      clear hNext
      try clear hnew
      try clear hS
      try simp only [Act.put, List.setIfInBounds_toArray, List.set_cons_zero, List.set_cons_succ]
      refine wpAnyH_ready (rs := [7]) (by kernel_rfl) (by simp) ?_
      refine AllReadyH.cons (by simp only [List.getElem?_toArray, List.getElem?_cons_succ, List.getElem?_cons_zero]; rfl) (fun Kz hKz => ?_) AllReadyH.nil
      rw [if_pos (by rfl)]
      (refine wpK_appRowsAt (P := Tryd.prog) (R := RB) (e := 36) (size := 1) (base := R) (F := F) (F' := fun j => F j ∨ j = wd.heap.size) liesRB (.tmp 16) (.tmp 18) 33 rfl Tryd.underlying33 24 hinfo.out (by decide) rfl hrow6 zSec _ #[.slice (some ⟨wd.heap.size, 0, none⟩) 64 64] (Lib.hid (rb_lit hx5'.out (.inr rfl))) (Lib.hid fun _ h => .inl h) hap6 hlt6 rfl hx6 hkl.out (by decide) (by omega) ?_)
      intro v7 w7 hr7 hO7 hM7
      have hS := True.intro
      have hat7 := Lib.hid (hO7.out.heap hR6.out.at_ (fun e => hR6.out.aR R e rfl))
      obtain ⟨a7, c7, hv7, _⟩ := hr7.out.form
      rw [List.length_append, secs_length] at hv7
      subst hv7
      have k7 : w7.cell? ⟨R, 0, none⟩ = some (.slice a k c) := (by rw [cell_of_block hat7.out]; rfl)
      have f7 : w7.frozen? ⟨R, 0, none⟩ = false := free_of_block hat7.out _
      refine hKz.out _ _ (by first | exact hS | exact Below.trans hOn (Below.mono hnew (Below.size hOn))) (fun hNext => ?_)
      clear hKz Kz hOn
      have hOn := hNext
      clear hNext
      try clear hnew
      try clear hS
      try simp only [Act.put]
      refine wpAnyH_take (i := 8) (v := ?_) (by simp only [List.getElem?_toArray, List.getElem?_cons_succ, List.getElem?_cons_zero]; rfl) (by kernel_rfl) (by kernel_rfl) (by kernel_rfl) (by exact fun _ _ _ h => h) (Or.inl ⟨by rfl, ?_⟩) hOn ?_
      rotate_left
      focus (intro W hSW; go_simp; try with_reducible rfl)
      try simp only [Act.put, List.setIfInBounds_toArray, List.set_cons_zero, List.set_cons_succ]
      refine wpAnyH_take (i := 9) (v := ?_) (by simp only [List.getElem?_toArray, List.getElem?_cons_succ, List.getElem?_cons_zero]; rfl) (by kernel_rfl) (by kernel_rfl) (by kernel_rfl) (by exact fun _ _ _ h => h) (Or.inl ⟨by rfl, ?_⟩) hOn ?_
      rotate_left
      focus (intro W hSW; go_simp; try with_reducible rfl)
      try simp only [Act.put, List.setIfInBounds_toArray, List.set_cons_zero, List.set_cons_succ]
      refine wpAnyH_ready (rs := [10]) (by kernel_rfl) (by simp) ?_
      refine AllReadyH.cons (by simp only [List.getElem?_toArray, List.getElem?_cons_succ, List.getElem?_cons_zero]; rfl) (fun Kz hKz => ?_) AllReadyH.nil
      go_simp
      have hU8 := Lib.hid ((Upd.refl hat7.out).setCell (j := 0) (.slice a7 (k + 1) c7))
      have hS := True.intro
      refine hKz.out _ _ (by first | exact hS | exact Below.trans hOn (Below.mono hnew (Below.size hOn))) (fun hNext => ?_)
      clear hKz Kz hOn
      have hOn := hNext
      clear hNext
      try clear hnew
      try clear hS
      try simp only [Act.put]
      refine wpAnyH_done (by kernel_rfl) ?_ _
      rotate_left
      refine AllReadyH.cons (by simp only [List.getElem?_toArray, List.getElem?_cons_succ, List.getElem?_cons_zero]; rfl) (fun Kz hKz => ?_) AllReadyH.nil
      go_simp
      focus (try go_wp2_with fail)
      (with_reducible refine made_step (t := 5) ?_)
      intro w5 hx5 hnew
      have hS := True.intro
      have hR5 := Lib.hid (hRd.out.below hnew)
      have hb5 := Lib.hid (hb0.out.trans (hnew.mono hRs))
      have c5 : w5.cell? ⟨R, 0, none⟩ = some (.slice a k c) := (by rw [hR5.out.c]; rfl)
      have hs5 := hnew.size
      refine hKz.out _ _ (by first | exact hS | exact Below.trans hOn (Below.mono hnew (Below.size hOn))) (fun hNext => ?_)
      clear hKz Kz hOn
      have hOn := hNext
      clear hNext
      try clear hnew
      try clear hS
      try simp only [Act.put, List.setIfInBounds_toArray, List.set_cons_zero, List.set_cons_succ]
      refine wpAnyH_ready (rs := [4, 6]) (by kernel_rfl) (by simp) ?_
      refine AllReadyH.cons (by simp only [List.getElem?_toArray, List.getElem?_cons_succ, List.getElem?_cons_zero]; rfl) (fun Kz hKz => ?_) ?_
      go_simp
      focus (try go_wp2_with fail)
      refine hKz.out _ _ (by first | exact hOn | exact Grown.alloc hOn _ | exact Below.alloc hOn (Below.size hOn) _ | exact Grown.alloc (Grown.refl _) _) (fun hNext => ?_)
      clear hKz Kz hOn
      have hOn := hNext
      clear hNext
      try simp only [Act.put, List.setIfInBounds_toArray, List.set_cons_zero, List.set_cons_succ]
      refine wpAnyH_ready (rs := [6]) (by kernel_rfl) (by simp) ?_
      refine AllReadyH.cons (by simp only [List.getElem?_toArray, List.getElem?_cons_succ, List.getElem?_cons_zero]; rfl) (fun Kz hKz => ?_) AllReadyH.nil
      go_simp
      focus (try go_wp2_with fail)
      (with_reducible refine made_step (t := 36) ?_)
      intro w6 hx6 hnew
      have hS := True.intro
      have hR6 := Lib.hid (hR5.out.below hnew)
      have hb6 := Lib.hid (hb5.out.trans (hnew.mono (by omega)))
      have c6 : w6.cell? ⟨R, 0, none⟩ = some (.slice a k c) := (by rw [hR6.out.c]; rfl)
      have hx5' := Lib.hid ((hnew.block _ (block_lt hx5.out)).trans hx5.out)
      have hs6 := hnew.size
      have hXl := block_lt hx5.out
      have hrow6 := Lib.hid hR6.out.all
      have hap6 : Hid (∀ j, (Value.slice a k c).ownBlock = some j → ¬ (F j ∨ j = wd.heap.size)) := Lib.hid (fun j hj h => h.elim (fun h => hRd.out.all.apart j hj h) (fun e => Nat.ne_of_lt (hRd.out.all.ownLt j hj).2 e))
      have hlt6 : Hid (∀ j, F j ∨ j = wd.heap.size → j < w6.heap.size) := Lib.hid (fun j h => h.elim (fun h => Nat.lt_of_lt_of_le (hRd.out.all.lt j h) (Nat.le_trans hs5 hs6)) (fun e => (by omega)))
      refine hKz.out _ _ (by first | exact hS | exact Below.trans hOn (Below.mono hnew (Below.size hOn))) (fun hNext => ?_)
      clear hKz Kz hOn
      have hOn := hNext
      clear hNext
      try clear hnew
      try clear hS
      try simp only [Act.put, List.setIfInBounds_toArray, List.set_cons_zero, List.set_cons_succ]
      refine wpAnyH_ready (rs := [7]) (by kernel_rfl) (by simp) ?_
      refine AllReadyH.cons (by simp only [List.getElem?_toArray, List.getElem?_cons_succ, List.getElem?_cons_zero]; rfl) (fun Kz hKz => ?_) AllReadyH.nil
      rw [if_pos (by rfl)]
      (refine wpK_appRowsAt (P := Tryd.prog) (R := RB) (e := 36) (size := 1) (base := R) (F := F) (F' := fun j => F j ∨ j = wd.heap.size) liesRB (.tmp 16) (.tmp 18) 33 rfl Tryd.underlying33 24 hinfo.out (by decide) rfl hrow6 zSec _ #[.slice (some ⟨wd.heap.size, 0, none⟩) 64 64] (Lib.hid (rb_lit hx5'.out (.inr rfl))) (Lib.hid fun _ h => .inl h) hap6 hlt6 rfl hx6 hkl.out (by decide) (by omega) ?_)
      intro v7 w7 hr7 hO7 hM7
      have hS := True.intro
      have hat7 := Lib.hid (hO7.out.heap hR6.out.at_ (fun e => hR6.out.aR R e rfl))
      obtain ⟨a7, c7, hv7, _⟩ := hr7.out.form
      rw [List.length_append, secs_length] at hv7
      subst hv7
      have k7 : w7.cell? ⟨R, 0, none⟩ = some (.slice a k c) := (by rw [cell_of_block hat7.out]; rfl)
      have f7 : w7.frozen? ⟨R, 0, none⟩ = false := free_of_block hat7.out _
      refine hKz.out _ _ (by first | exact hS | exact Below.trans hOn (Below.mono hnew (Below.size hOn))) (fun hNext => ?_)
      clear hKz Kz hOn
      have hOn := hNext
      clear hNext
      try clear hnew
      try clear hS
      try simp only [Act.put]
      refine wpAnyH_take (i := 8) (v := ?_) (by simp only [List.getElem?_toArray, List.getElem?_cons_succ, List.getElem?_cons_zero]; rfl) (by kernel_rfl) (by kernel_rfl) (by kernel_rfl) (by exact fun _ _ _ h => h) (Or.inl ⟨by rfl, ?_⟩) hOn ?_
      rotate_left
      focus (intro W hSW; go_simp; try with_reducible rfl)
      try simp only [Act.put, List.setIfInBounds_toArray, List.set_cons_zero, List.set_cons_succ]
      refine wpAnyH_take (i := 9) (v := ?_) (by simp only [List.getElem?_toArray, List.getElem?_cons_succ, List.getElem?_cons_zero]; rfl) (by kernel_rfl) (by kernel_rfl) (by kernel_rfl) (by exact fun _ _ _ h => h) (Or.inl ⟨by rfl, ?_⟩) hOn ?_
      rotate_left
      focus (intro W hSW; go_simp; try with_reducible rfl)
      try simp only [Act.put, List.setIfInBounds_toArray, List.set_cons_zero, List.set_cons_succ]
      refine wpAnyH_ready (rs := [10]) (by kernel_rfl) (by simp) ?_
      refine AllReadyH.cons (by simp only [List.getElem?_toArray, List.getElem?_cons_succ, List.getElem?_cons_zero]; rfl) (fun Kz hKz => ?_) AllReadyH.nil
      go_simp
      have hU8 := Lib.hid ((Upd.refl hat7.out).setCell (j := 0) (.slice a7 (k + 1) c7))
      have hS := True.intro
      refine hKz.out _ _ (by first | exact hS | exact Below.trans hOn (Below.mono hnew (Below.size hOn))) (fun hNext => ?_)
      clear hKz Kz hOn
      have hOn := hNext
      clear hNext
      try clear hnew
      try clear hS
      try simp only [Act.put]
      refine wpAnyH_done (by kernel_rfl) ?_ _
      rotate_left
      refine AllReadyH.cons (by simp only [List.getElem?_toArray, List.getElem?_cons_succ, List.getElem?_cons_zero]; rfl) (fun Kz hKz => ?_) AllReadyH.nil
      go_simp
      focus (try go_wp2_with fail)
      (with_reducible refine made_step (t := 36) ?_)
      intro w6 hx6 hnew
      have hS := True.intro
      have hR6 := Lib.hid (hR5.out.below hnew)
      have hb6 := Lib.hid (hb5.out.trans (hnew.mono (by omega)))
      have c6 : w6.cell? ⟨R, 0, none⟩ = some (.slice a k c) := (by rw [hR6.out.c]; rfl)
      have hx5' := Lib.hid ((hnew.block _ (block_lt hx5.out)).trans hx5.out)
      have hs6 := hnew.size
      have hXl := block_lt hx5.out
      have hrow6 := Lib.hid hR6.out.all
      have hap6 : Hid (∀ j, (Value.slice a k c).ownBlock = some j → ¬ (F j ∨ j = wd.heap.size)) := Lib.hid (fun j hj h => h.elim (fun h => hRd.out.all.apart j hj h) (fun e => Nat.ne_of_lt (hRd.out.all.ownLt j hj).2 e))
      have hlt6 : Hid (∀ j, F j ∨ j = wd.heap.size → j < w6.heap.size) := Lib.hid (fun j h => h.elim (fun h => Nat.lt_of_lt_of_le (hRd.out.all.lt j h) (Nat.le_trans hs5 hs6)) (fun e => (by omega)))
      refine hKz.out _ _ (by first | exact hS | exact Below.trans hOn (Below.mono hnew (Below.size hOn))) (fun hNext => ?_)
      clear hKz Kz hOn
      have hOn := hNext
      clear hNext
      try clear hnew
      try clear hS
      try simp only [Act.put, List.setIfInBounds_toArray, List.set_cons_zero, List.set_cons_succ]
      refine wpAnyH_ready (rs := [4]) (by kernel_rfl) (by simp) ?_
      refine AllReadyH.cons (by simp only [List.getElem?_toArray, List.getElem?_cons_succ, List.getElem?_cons_zero]; rfl) (fun Kz hKz => ?_) AllReadyH.nil
      go_simp
      focus (try go_wp2_with fail)
      refine hKz.out _ _ (by first | exact hOn | exact Grown.alloc hOn _ | exact Below.alloc hOn (Below.size hOn) _ | exact Grown.alloc (Grown.refl _) _) (fun hNext => ?_)
      clear hKz Kz hOn
      have hOn := hNext
      clear hNext
      try simp only [Act.put, List.setIfInBounds_toArray, List.set_cons_zero, List.set_cons_succ]
      refine wpAnyH_ready (rs := [7]) (by kernel_rfl) (by simp) ?_
      refine AllReadyH.cons (by simp only [List.getElem?_toArray, List.getElem?_cons_succ, List.getElem?_cons_zero]; rfl) (fun Kz hKz => ?_) AllReadyH.nil
      rw [if_pos (by rfl)]
      (refine wpK_appRowsAt (P := Tryd.prog) (R := RB) (e := 36) (size := 1) (base := R) (F := F) (F' := fun j => F j ∨ j = wd.heap.size) liesRB (.tmp 16) (.tmp 18) 33 rfl Tryd.underlying33 24 hinfo.out (by decide) rfl hrow6 zSec _ #[.slice (some ⟨wd.heap.size, 0, none⟩) 64 64] (Lib.hid (rb_lit hx5'.out (.inr rfl))) (Lib.hid fun _ h => .inl h) hap6 hlt6 rfl hx6 hkl.out (by decide) (by omega) ?_)
      intro v7 w7 hr7 hO7 hM7
      have hS := True.intro
      have hat7 := Lib.hid (hO7.out.heap hR6.out.at_ (fun e => hR6.out.aR R e rfl))
      obtain ⟨a7, c7, hv7, _⟩ := hr7.out.form
      rw [List.length_append, secs_length] at hv7
      subst hv7
      have k7 : w7.cell? ⟨R, 0, none⟩ = some (.slice a k c) := (by rw [cell_of_block hat7.out]; rfl)
      have f7 : w7.frozen? ⟨R, 0, none⟩ = false := free_of_block hat7.out _
      refine hKz.out _ _ (by first | exact hS | exact Below.trans hOn (Below.mono hnew (Below.size hOn))) (fun hNext => ?_)
      clear hKz Kz hOn
      have hOn := hNext
      clear hNext
      try clear hnew
      try clear hS
      try simp only [Act.put]
      refine wpAnyH_take (i := 8) (v := ?_) (by simp only [List.getElem?_toArray, List.getElem?_cons_succ, List.getElem?_cons_zero]; rfl) (by kernel_rfl) (by kernel_rfl) (by kernel_rfl) (by exact fun _ _ _ h => h) (Or.inl ⟨by rfl, ?_⟩) hOn ?_
      rotate_left
      focus (intro W hSW; go_simp; try with_reducible rfl)
      try simp only [Act.put, List.setIfInBounds_toArray, List.set_cons_zero, List.set_cons_succ]
      refine wpAnyH_take (i := 9) (v := ?_) (by simp only [List.getElem?_toArray, List.getElem?_cons_succ, List.getElem?_cons_zero]; rfl) (by kernel_rfl) (by kernel_rfl) (by kernel_rfl) (by exact fun _ _ _ h => h) (Or.inl ⟨by rfl, ?_⟩) hOn ?_
      rotate_left
      focus (intro W hSW; go_simp; try with_reducible rfl)
      try simp only [Act.put, List.setIfInBounds_toArray, List.set_cons_zero, List.set_cons_succ]
      refine wpAnyH_ready (rs := [10]) (by kernel_rfl) (by simp) ?_
      refine AllReadyH.cons (by simp only [List.getElem?_toArray, List.getElem?_cons_succ, List.getElem?_cons_zero]; rfl) (fun Kz hKz => ?_) AllReadyH.nil
      go_simp
      have hU8 := Lib.hid ((Upd.refl hat7.out).setCell (j := 0) (.slice a7 (k + 1) c7))
      have hS := True.intro
      refine hKz.out _ _ (by first | exact hS | exact Below.trans hOn (Below.mono hnew (Below.size hOn))) (fun hNext => ?_)
      clear hKz Kz hOn
      have hOn := hNext
      clear hNext
      try clear hnew
      try clear hS
      try simp only [Act.put]
      refine wpAnyH_done (by kernel_rfl) ?_ _
      all_goals
        go_wp2_with fail
        have hR8 := RefD.more hR6.out hr7.out hO7.out hM7.out (by omega) hU8.out
        have hb8 := (hb6.out.trans ((hO7.out.below (Nat.le_trans hRs (Nat.le_trans hs5 hs6)) (fun j hj => (hR6.out.all.ownLt j hj).1)))).trans (hU8.out.below (Nat.le_refl _))
        go_roundw
        case rel => exact ⟨k + 1, _, _, by omega, by go_num, hR8, fun j hj => hj.elim (fun h => hF.out j h) (fun e => by omega), hb8⟩
        case measure => simp [intOf]; omega
    · obtain rfl : k = n := by omega
      replace hR := Lib.hid hR
      go_wp2_with fail
      go_ret
      refine ⟨R, fun j => R ≤ j ∧ j < wr.heap.size, rfl, ⟨va, _, F, 0, hR.out, ⟨⟨Nat.le_refl _, block_lt hR.out.at_⟩, fun j hj => hR.out.all.ownLt j hj, fun j hj => (by cases hj), fun j hj => ⟨hF j hj, hR.out.all.lt j hj⟩⟩, fun j hj => hj⟩, hb⟩
end Go.Proofs.YtdgilgnaoifpcaaDoor
