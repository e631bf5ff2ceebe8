/- Walks over the reference's disk: Sync. -/
import Derived.Test.YtdgilgnaoifpcaaDoorRefDone
import Derived.Test.YtdgilgnaoifpcaaDoorRefW
namespace Go.Proofs.YtdgilgnaoifpcaaDoor
open Go.RowKit

theorem RefD.lts {base : Nat} {w : World} {R n : Nat} {va vw : Value} {F : Nat → Prop} {p : DP} {rl : Int} (h : RefD base w R va vw F n p rl) : R < w.heap.size ∧ (∀ k, va.ownBlock = some k → k < w.heap.size) ∧ (∀ k, vw.ownBlock = some k → k < w.heap.size) ∧ ∀ k, F k → k < w.heap.size :=
  ⟨block_lt h.at_, fun k hk => (h.all.ownLt k hk).2, fun k hk => (h.waits.ownLt k hk).2, h.all.lt⟩
/-- Nothing waits any more. -/
theorem RefD.cleared {base : Nat} {w w' : World} {R n : Nat} {va vw : Value} {F : Nat → Prop} {p : DP} {rl rl' l' : Int} {a g : Bool} (h : RefD base w R va vw F n p rl) (hU : Upd R (.cells (rcells va (.slice none 0 0) a rl' g) 51 (0, 0)) w w') (hl : a = true → rl' = l') (hr : 0 ≤ rl' ∧ rl' ≤ 9223372036854775807) :
    RefD base w' R va (.slice none 0 0) F n { p with ws := [], armed := a, l := l', gone := g } rl' := by
  have hO : Only (fun k => k = R) w w' := Only.ofUpd hU rfl
  refine ⟨hU.here, h.all.only liesRB hO (fun k hk e => h.fR (e ▸ hk)) h.aR, ?_, h.fR, h.aR, fun k hk => (by cases hk), fun q hq => (by cases hq), h.flen, hl, hr⟩
  exact (RowsOf.nil (R := RWt) (e := 77) (size := 2) base w').more liesRWt (fun _ h => False.elim h) (fun j hj => by cases hj) (fun j hj => Nat.lt_of_lt_of_le (h.all.lt j hj) hO.size)
/-- On the way through the writes that wait. -/
def RGo (base : Nat) (w2 wr : World) (R n : Nat) (va vw : Value) (F : Nat → Prop) (p : DP) (rl : Int) (ks : Nat → Option Nat) (k : Nat) : Prop :=
  ∃ F', RefD base wr R va vw F' n { p with f := doneK ks (p.ws.take k) p.f } rl ∧ (∀ j, F j → F' j) ∧ (∀ j, F' j → F j ∨ w2.heap.size ≤ j) ∧ Only (fun j => va.ownBlock = some j) w2 wr
theorem RGo.start {base : Nat} {w2 : World} {R n : Nat} {va vw : Value} {F : Nat → Prop} {p : DP} {rl : Int} (h : RefD base w2 R va vw F n p rl) (ks : Nat → Option Nat) : RGo base w2 w2 R n va vw F p rl ks 0 := ⟨F, h, fun _ h => h, fun _ h => .inl h, Only.refl _ _⟩
theorem RGo.skip {base : Nat} {w2 wr wr' : World} {R n : Nat} {va vw : Value} {F : Nat → Prop} {p : DP} {rl : Int} {ks : Nat → Option Nat} {k : Nat} (h : RGo base w2 wr R n va vw F p rl ks k) (hk : k < p.ws.length) (hks : ks k = none) (hb : Below wr.heap.size wr wr') : RGo base w2 wr' R n va vw F p rl ks (k + 1) := by
  obtain ⟨F', h1, h2, h3, h4⟩ := h
  refine ⟨F', ?_, h2, h3, h4.trans (Only.ofBelow (D := fun j => va.ownBlock = some j) hb) (fun _ _ e => e)⟩
  rw [doneK_take hk, hks]
  exact h1.below hb
theorem RGo.did {base : Nat} {w2 wr wr1 wr2 : World} {R n : Nat} {va vw : Value} {F : Nat → Prop} {p : DP} {rl : Int} {ks : Nat → Option Nat} {k m : Nat} (h : ∃ F', (∀ j, F j → F' j) ∧ (∀ j, F' j → F j ∨ w2.heap.size ≤ j) ∧ Only (fun j => va.ownBlock = some j) w2 wr ∧ Below wr.heap.size wr wr1 ∧ RDone base wr1 wr2 R va vw F' n { p with f := doneK ks (p.ws.take k) p.f } rl (p.ws.getD k (0, [])).1 m (p.ws.getD k (0, [])).2) (hk : k < p.ws.length) (hks : ks k = some m) : RGo base w2 wr2 R n va vw F p rl ks (k + 1) := by
  obtain ⟨F', h2, h3, h4, hb, F2, k1, k2, k3, k4⟩ := h
  have hg : p.ws.getD k (0, []) = p.ws[k] := by simp [List.getD_eq_getElem?_getD, hk]
  rw [hg] at k1
  have hs := h4.size
  have hs2 := hb.size
  refine ⟨F2, ?_, fun j hj => k2 j (h2 j hj), fun j hj => ?_, (h4.trans (Only.ofBelow (D := fun j => va.ownBlock = some j) hb) (fun _ _ e => e)).trans k4 (fun _ _ e => e)⟩
  · rw [doneK_take hk, hks]
    exact k1
  · rcases k3 j hj with e | e
    · exact h3 j e
    · exact .inr (by omega)

set_option maxRecDepth 100000 in
set_option maxHeartbeats 1000000 in
theorem rsync_yes {base : Nat} {w : World} {R n : Nat} {p : DP} {S : Nat → Prop} (h : RM base w R n p S) (hbs : base ≤ w.heap.size) (hn : n ≤ 2048) (hws : p.ws.length ≤ 100000) (hb : p.bad = false) :
    Calls Tryd.prog 29 #[.pointer (some ⟨R, 0, none⟩)] w fun x w' => x = .returned (.int .i64 0) ∧ RStep base w w' R n { p with l := p.l - 1, f := doneK (fun _ => some 64) p.ws p.f, ws := [] } S := by
  have h' := h
  obtain ⟨va, vw, F, rl, hr, hS, hSl⟩ := h'
  obtain ⟨hgone, har⟩ := DP.bad_not hb
  have har2 : p.armed = true → rl ≠ 0 := fun ha => by rw [hr.left ha]; exact har ha
  have hat := hr.at_
  rw [hgone] at hat
  have hde := Lib.hid (rdeed_go R va vw p.armed rl _ har2 hr.range w hat)
  obtain ⟨rl2, hrl2⟩ : ∃ rl2, rl2 = (if p.armed = true then rl - 1 else rl) := ⟨_, rfl⟩
  rw [← hrl2] at hde
  have hrl3 : 0 ≤ rl2 ∧ rl2 ≤ 9223372036854775807 := by
    have := hr.range
    rw [hrl2]
    split
    · next ha => have := har2 ha; omega
    · exact this
  have hrl4 : p.armed = true → rl2 = p.l - 1 := fun ha => by rw [hrl2, if_pos ha, hr.left ha]
  replace hgone := Lib.hid hgone
  replace hr := Lib.hid hr
  replace h := Lib.hid h
  replace hS := Lib.hid hS
  replace hSl := Lib.hid hSl
  replace hrl2 := Lib.hid hrl2
  replace hrl4 := Lib.hid hrl4
  replace hrl3 := Lib.hid hrl3
  clear hb har har2 hat
  go_enter Tryd.func29, Tryd.ntmps29
  go_wp2_with fail
  with_reducible refine hde.out.mono ?_
  rintro x w2 ⟨rfl, hU⟩
  have hr2 := hr.out.upd (p' := { p with l := p.l - 1 }) (rl' := rl2) (by show Upd R (.cells (rcells _ _ p.armed rl2 p.gone) _ _) _ _; rw [hgone.out]; exact hU) rfl rfl hrl4.out hrl3.out
  have hO2 : Only (fun k => k = R) w w2 := Only.ofUpd hU rfl
  have hs2 := hO2.size
  obtain ⟨aw, cw, e2, -⟩ := hr2.waits.form
  subst e2
  have c1 : w2.cell? ⟨R, 1, none⟩ = some (.slice aw p.ws.length cw) := by rw [hr2.c]; rfl
  have hlw : ∀ q ∈ p.ws, q.2.length = 64 ∧ 0 ≤ q.1 ∧ q.1 < n := hr2.lens
  have hst0 := RGo.start hr2 (fun _ => some 64)
  obtain ⟨P, hP⟩ : ∃ P : DP, P = { p with l := p.l - 1 } := ⟨_, rfl⟩
  have hPw : P.ws = p.ws := by rw [hP]
  rw [← hP] at hr2 hst0
  rw [← hPw] at c1 hws hlw
  obtain ⟨L, hL⟩ : ∃ L, L = P.ws.length := ⟨_, rfl⟩
  rw [← hL] at c1 hws hst0 hr2
  have hvw : aw = aw := rfl
  replace hL := Lib.hid hL
  replace hP := Lib.hid hP
  replace hPw := Lib.hid hPw
  replace hlw := Lib.hid hlw
  replace hst0 := Lib.hid hst0
  replace hU := Lib.hid hU
  replace hr2 := Lib.hid hr2
  replace hO2 := Lib.hid hO2
  clear hde hvw
  go_wp2_with fail
  go_loopw [17, 18, 19, 5, 20, 21, 22, 23, 16] (fun _ _ _ _ _ _ _ _ j wr => ∃ k : Nat, k ≤ L ∧ j = .int .i64 k ∧ RGo base w2 wr R n va (.slice aw L cw) F P rl2 (fun _ => some 64) k) (fun _ _ _ _ _ _ _ _ j _ => L - (intOf j).toNat)
  case atStart => exact ⟨0, Nat.zero_le _, rfl, hst0.out⟩
  case round =>
    obtain ⟨k, hk, rfl, hgo⟩ := hrel
    clear hst0 c1
    by_cases hlt : k < L
    · have hlt2 : (k : Int) < L := by omega
      have hkw : k < P.ws.length := by rw [← hL.out]; exact hlt
      have hgo' := hgo
      obtain ⟨F', h1, h2, h3, h4⟩ := hgo'
      obtain ⟨g, cap, cs, e3, hRW, hrgw⟩ := h1.waits.elem liesRWt k _ (List.getElem?_eq_getElem hkw)
      obtain ⟨a', c', rfl, harg', -⟩ := hRW
      have hq := hlw.out P.ws[k] (List.getElem_mem hkw)
      have hgd : P.ws.getD k (0, []) = P.ws[k] := by simp [List.getD_eq_getElem?_getD, hkw]
      rw [hq.1] at hrgw
      have d0 := hrgw 0 _ rfl
      have d1 := hrgw 1 _ rfl
      have hsl : aw = some ⟨g, 0, none⟩ := by injection e3
      subst hsl
      rw [Nat.add_zero] at d0
      obtain ⟨i, hi⟩ : ∃ i : Nat, P.ws[k].1 = (i : Int) := ⟨P.ws[k].1.toNat, by have := hq.2.1; omega⟩
      rw [hi] at d0
      obtain ⟨wb, hwb⟩ : ∃ wb, wb = wr.alloc (.cells #[.int .i64 i, .slice a' 64 c'] 77) := ⟨_, rfl⟩
      have hG : Below wr.heap.size wr wb := by rw [hwb]; exact (Below.refl _ _).alloc (Nat.le_refl _) _
      have hb1 := h1.below hG
      have hdo := (rdone_any hb1 (by have := h4.size; have := hG.size; have := hO2.out.size; omega) i (by have := hq.2.2; omega) hn a' c' P.ws[k].2 hq.1 (harg'.below hG) 64 (Nat.le_refl _) hb1.lts)
      rw [show ((64 : Nat) : Int) = 64 from rfl] at hdo
      replace hdo := Lib.hid hdo
      have hdid := Lib.hid (fun (w' : World) (hd : RDone base wb w' R va (.slice (some ⟨g, 0, none⟩) L cw) F' n { P with f := doneK (fun _ => some 64) (P.ws.take k) P.f } rl2 (i : Int) 64 P.ws[k].2) => RGo.did (ks := fun _ => some 64) (m := 64) ⟨F', h2, h3, h4, hG, by rw [hgd, hi]; exact hd⟩ hkw rfl)
      generalize P.ws[k] = x at *
      replace hwb := Lib.hid hwb
      replace hG := Lib.hid hG
      clear hrgw e3 hb1 h1 h2 h3 h4 harg' hq hi hgd hgo
      go_wp2_with fail
      rw [← hwb.out]
      have hbx : wb.heap[wr.heap.size]? = some (.cells #[.int .i64 i, .slice a' 64 c'] 77 (0, 0)) := by rw [hwb.out]; exact heap_alloc_new wr _
      have b0 : wb.cell? ⟨wr.heap.size, 0, none⟩ = some (.int .i64 i) := by rw [cell_of_block hbx]; rfl
      have b1 : wb.cell? ⟨wr.heap.size, 1, none⟩ = some (.slice a' 64 c') := by rw [cell_of_block hbx]; rfl
      clear hbx
      go_wp2_with fail
      with_reducible refine hdo.out.mono ?_
      rintro x4 w4 ⟨rfl, hd⟩
      have hgo4 := Lib.hid (hdid.out w4 hd)
      clear hd hdo hdid b0 b1
      go_wp2_with fail
      go_roundw
      case rel => exact ⟨k + 1, by omega, by go_num, hgo4.out⟩
      case measure => simp [intOf]; omega
    · obtain rfl : L = k := by omega
      obtain ⟨F', h1, h2, h3, h4⟩ := hgo
      rw [hL.out, List.take_length] at h1
      have c1 : wr.cell? ⟨R, 1, none⟩ = some (.slice aw L cw) := by rw [hL.out, h1.c]; rfl
      have f1 := h1.free 1
      replace h1 := Lib.hid h1
      replace h4 := Lib.hid h4
      go_wp2_with fail
      go_ret
      have hU9 := (Upd.refl h1.out.at_).setCell (j := 1) (.slice none 0 0)
      have hst := h1.out.cleared (l' := P.l) (a := P.armed) (g := P.gone) hU9 h1.out.left h1.out.range
      have hfw : P.f = p.f := by rw [hP.out]
      refine ⟨rfl, ?_⟩
      have hfin : RStep base w _ R n { P with f := doneK (fun _ => some 64) P.ws P.f, ws := [] } S := RStep.mk' h.out hbs hst ?_ (fun k hk => .inl (hS.out.2.1 k hk)) (fun k hk => by cases hk) (fun k hk => Or.imp (fun e => hS.out.2.2.2 k e) (fun e => by omega) (h3 k hk))
      · rw [hP.out] at hfin
        exact hfin
      · have k1 : Only S w w2 := hO2.out.mono (fun _ _ e => e ▸ hS.out.1)
        have k2 : Only S w2 wr := h4.out.mono (fun k _ e => hS.out.2.1 k e)
        exact (k1.trans k2 (fun _ _ h => h)).trans ((Only.ofUpd hU9 rfl : Only (fun k => k = R) _ _).mono (fun _ _ e => e ▸ hS.out.1)) (fun _ _ h => h)
end Go.Proofs.YtdgilgnaoifpcaaDoor
