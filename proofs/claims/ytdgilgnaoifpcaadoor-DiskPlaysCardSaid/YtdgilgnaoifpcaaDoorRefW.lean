/- Walks over the reference's disk: Write. -/
import Derived.Test.YtdgilgnaoifpcaaDoorRefNew
import Derived.Test.YtdgilgnaoifpcaaDoorBuildG
namespace Go.Proofs.YtdgilgnaoifpcaaDoor
open Go.RowKit

set_option maxHeartbeats 400000 in
theorem rwrite_no {base : Nat} {w : World} {R n : Nat} {p : DP} {S : Nat → Prop} (h : RM base w R n p S) (i : Int) (hi : i < 0 ∨ (n : Int) ≤ i) (a : Option Addr) (m c : Nat) :
    Calls Tryd.prog 27 #[.pointer (some ⟨R, 0, none⟩), .int .i64 i, .slice a m c] w fun x w' => x = .returned (.int .i64 1) ∧ w = w' := by
  obtain ⟨va, vw, F, rl, hr, hS, _⟩ := h
  obtain ⟨a0, c0, rfl, _⟩ := hr.all.form
  have c0 : w.cell? ⟨R, 0, none⟩ = some (.slice a0 n c0) := by rw [hr.c]; show some (Value.slice a0 (secs n p.f).length c0) = _; rw [secs_length]
  clear hr hS
  by_cases h0 : i < 0
  · clear hi
    go_enter Tryd.func27, Tryd.ntmps27
    go_wp2_with fail
    go_ret
    exact ⟨rfl, rfl⟩
  · have h1 : (n : Int) ≤ i := by omega
    clear hi
    go_enter Tryd.func27, Tryd.ntmps27
    go_wp2_with fail
    go_ret
    exact ⟨rfl, rfl⟩
set_option maxHeartbeats 400000 in
theorem rwrite_size {base : Nat} {w : World} {R n : Nat} {p : DP} {S : Nat → Prop} (h : RM base w R n p S) (i : Int) (hi : 0 ≤ i) (hi2 : i < (n : Int)) (a : Option Addr) (m c : Nat) (hm : m ≠ 64) :
    Calls Tryd.prog 27 #[.pointer (some ⟨R, 0, none⟩), .int .i64 i, .slice a m c] w fun x w' => x = .returned (.int .i64 8) ∧ w = w' := by
  obtain ⟨va, vw, F, rl, hr, hS, _⟩ := h
  obtain ⟨a0, c0, rfl, _⟩ := hr.all.form
  have c0 : w.cell? ⟨R, 0, none⟩ = some (.slice a0 n c0) := by rw [hr.c]; show some (Value.slice a0 (secs n p.f).length c0) = _; rw [secs_length]
  have h0 : ¬ i < 0 := by omega
  have h1 : ¬ (n : Int) ≤ i := by omega
  have hm2 : ((m : Int) != 64) = true := by simp; omega
  clear hr hS hm
  go_enter Tryd.func27, Tryd.ntmps27
  go_wp2_with fail
  go_ret
  exact ⟨rfl, rfl⟩
set_option maxHeartbeats 400000 in
theorem rwrite_bad {base : Nat} {w : World} {R n : Nat} {p : DP} {S : Nat → Prop} (h : RM base w R n p S) (hbs : base ≤ w.heap.size) (i : Int) (hi : 0 ≤ i) (hi2 : i < (n : Int)) (hb : p.bad = true) (a : Option Addr) (c : Nat) :
    Calls Tryd.prog 27 #[.pointer (some ⟨R, 0, none⟩), .int .i64 i, .slice a 64 c] w fun x w' => x = .returned (.int .i64 14) ∧ RStep base w w' R n { p with gone := true } S := by
  have h' := h
  obtain ⟨va, vw, F, rl, hr, hS, _⟩ := h'
  have hb2 : (p.gone || (p.armed && rl == 0)) = true := by
    cases ha : p.armed with
    | false => unfold DP.bad at hb; rw [ha] at hb; exact hb
    | true => rw [hr.left ha]; unfold DP.bad at hb; rw [ha] at hb; exact hb
  have hde := Lib.hid (rdeed_bad R va vw p.armed rl p.gone _ hb2 w hr.at_)
  have hst := Lib.hid (fun (w' : World) (hU : Upd R (.cells (rcells va vw p.armed rl true) 51 (0, 0)) w w') => RM.updated h hbs (hr.upd (p' := { p with gone := true }) hU rfl rfl hr.left hr.range) (Only.ofUpd hU rfl) hS)
  obtain ⟨a0, c0, rfl, _⟩ := hr.all.form
  have c0 : w.cell? ⟨R, 0, none⟩ = some (.slice a0 n c0) := by rw [hr.c]; show some (Value.slice a0 (secs n p.f).length c0) = _; rw [secs_length]
  have h0 : ¬ i < 0 := by omega
  have h1 : ¬ (n : Int) ≤ i := by omega
  clear hr hS hb hb2 h
  go_enter Tryd.func27, Tryd.ntmps27
  go_wp2_with fail
  with_reducible refine hde.out.mono ?_
  rintro x w2 ⟨rfl, hU⟩
  replace hU := Lib.hid hU
  go_wp2_with fail
  go_ret
  exact ⟨rfl, hst.out _ hU.out⟩

/-- A write more waits. -/
theorem RefD.written {base : Nat} {w2 w7 w8 w9 : World} {R n : Nat} {va vw v4 v8 : Value} {F F' : Nat → Prop} {p : DP} {rl : Int} {i : Int} {bs : List UInt8} (h : RefD base w2 R va vw F n p rl) (hO7 : Below w2.heap.size w2 w7) (hr8 : RowsOf RWt 77 2 base w8 F' v8 (p.ws ++ [(i, bs)])) (hO8 : Only (fun k => v4.ownBlock = some k) w7 w8) (hM : Moved w7 v4 v8)
    (h4 : ∀ k, v4.ownBlock = some k → w2.heap.size ≤ k) (hF1 : ∀ k, F k → F' k) (hF2 : ∀ k, F' k → F k ∨ w2.heap.size ≤ k) (hU : Upd R (.cells (rcells va v8 p.armed rl p.gone) 51 (0, 0)) w8 w9) (hi : 0 ≤ i) (hi2 : i < (n : Int)) (hbl : bs.length = 64) :
    RefD base w9 R va v8 F' n { p with ws := p.ws ++ [(i, bs)] } rl ∧ Only (fun k => k = R) w2 w9 ∧ ∀ k, v8.ownBlock = some k → w2.heap.size ≤ k := by
  have hRl := block_lt h.at_
  have hs7 := hO7.size
  have h8 : ∀ k, v8.ownBlock = some k → w2.heap.size ≤ k := fun k hk => by
    rcases hM k hk with e | e
    · exact h4 k e
    · omega
  have hO28 : Only (fun k => v4.ownBlock = some k) w2 w8 := (Only.ofBelow (D := fun k => v4.ownBlock = some k) hO7).trans hO8 (fun _ _ e => e)
  have hO9 : Only (fun k => k = R) w8 w9 := Only.ofUpd hU rfl
  have hFR : ¬ F' R := fun e => (hF2 R e).elim h.fR (fun e => by omega)
  have hO29 : Only (fun k => k = R) w2 w9 := ⟨hO9.os.trans hO28.os, hO9.tape.trans hO28.tape, hO9.output.trans hO28.output, Nat.le_trans hO28.size hO9.size, fun k hk hn => (hO9.block k (Nat.lt_of_lt_of_le hk hO28.size) hn).trans (hO28.block k hk (fun e => by have := h4 k e; omega))⟩
  have hl9 : ∀ k, F' k → k < w8.heap.size := fun k hk => hr8.lt k hk
  have hva : ∀ k, va.ownBlock = some k → ¬ F' k := fun k hk e => by
    have h1 := (h.all.ownLt k hk).2
    rcases hF2 k e with e | e
    · exact h.all.apart k hk e
    · omega
  refine ⟨⟨hU.here, ?_, ?_, hFR, h.aR, fun k hk => ⟨fun e => by have := h8 k hk; omega, fun e => by have := h8 k hk; have := (h.all.ownLt k e).2; omega⟩, fun q hq => ?_, h.flen, h.left, h.range⟩, hO29, h8⟩
  · have h1 := h.all.only liesRB hO28 (fun k hk e => by have := h4 k e; have := h.all.lt k hk; omega) (fun k hk e => by have := h4 k e; have := (h.all.ownLt k hk).2; omega)
    exact (h1.more liesRB hF1 hva hl9).only liesRB hO9 (fun k hk e => hFR (e ▸ hk)) h.aR
  · exact hr8.only liesRWt hO9 (fun k hk e => hFR (e ▸ hk)) (fun k hk e => by have := h8 k hk; omega)
  · rcases List.mem_append.1 hq with hq | hq
    · exact h.lens q hq
    · obtain rfl : q = (i, bs) := by simpa using hq
      exact ⟨hbl, hi, hi2⟩

theorem build_wtR (i : Int) (a : Option Addr) (m c : Nat) (W : World) : (Instr.build 77 #[(0, .int .i64 i), (1, .slice a m c)]).run Tryd.prog W = .ok (.agg #[.int .i64 i, .slice a m c]) W := by kernel_rfl
theorem slice_wtR (i : Int) (a : Option Addr) (m c : Nat) (W : World) : (Instr.buildSlice 49 1 #[(0, .agg #[.int .i64 i, .slice a m c])]).run Tryd.prog W = .ok (.slice (some ⟨W.heap.size, 0, none⟩) 1 1) (W.alloc (.cells #[.int .i64 i, .slice a m c] 77)) :=
  slice_one Tryd.underlying49 infoWtR (by decide) (by decide) _ rfl W
set_option maxRecDepth 100000 in
set_option maxHeartbeats 2000000 in
theorem rwrite_yes {base : Nat} {w : World} {R n : Nat} {p : DP} {S : Nat → Prop} (h : RM base w R n p S) (hbs : base ≤ w.heap.size) (hws : p.ws.length ≤ 100000) (i : Int) (hi : 0 ≤ i) (hi2 : i < (n : Int)) (hb : p.bad = false) (a : Option Addr) (c : Nat) (bs : List UInt8) (hbl : bs.length = 64) (harg : ArgB w a c bs) (haS : ∀ b o s, a = some ⟨b, o, s⟩ → b < w.heap.size ∧ b ≠ R) :
    Calls Tryd.prog 27 #[.pointer (some ⟨R, 0, none⟩), .int .i64 i, .slice a 64 c] w fun x w' => x = .returned (.int .i64 0) ∧ RStep base w w' R n { p with l := p.l - 1, ws := p.ws ++ [(i, bs)] } S := by
  have h' := h
  obtain ⟨va, vw, F, rl, hr, hS, hSl⟩ := h'
  obtain ⟨hgone, har⟩ := DP.bad_not hb
  have har2 : p.armed = true → rl ≠ 0 := fun ha => by rw [hr.left ha]; exact har ha
  have hat := hr.at_
  rw [hgone] at hat
  have hde := Lib.hid (rdeed_go R va vw p.armed rl _ har2 hr.range w hat)
  obtain ⟨bb, ob, rfl, -⟩ := harg.row 0 (by omega)
  obtain ⟨rl2, hrl2⟩ : ∃ rl2, rl2 = (if p.armed = true then rl - 1 else rl) := ⟨_, rfl⟩
  rw [← hrl2] at hde
  have hrl3 : 0 ≤ rl2 ∧ rl2 ≤ 9223372036854775807 := by
    have := hr.range
    rw [hrl2]
    split
    · next ha => have := har2 ha; omega
    · exact this
  have hrl4 : p.armed = true → rl2 = p.l - 1 := fun ha => by rw [hrl2, if_pos ha, hr.left ha]
  obtain ⟨a0, c0, e0, -⟩ := hr.all.form
  rw [secs_length] at e0
  subst e0
  have c0 : w.cell? ⟨R, 0, none⟩ = some (.slice a0 n c0) := by rw [hr.c]; rfl
  have h0 : ¬ i < 0 := by omega
  have h1 : ¬ (n : Int) ≤ i := by omega
  have hfin := Lib.hid infoWtR
  replace hr := Lib.hid hr
  replace h := Lib.hid h
  replace hS := Lib.hid hS
  replace hSl := Lib.hid hSl
  replace harg := Lib.hid harg
  replace haS := Lib.hid haS
  replace hrl2 := Lib.hid hrl2
  replace hrl4 := Lib.hid hrl4
  replace hgone := Lib.hid hgone
  clear hb har har2 hat
  go_enter Tryd.func27, Tryd.ntmps27
  go_wp2_with fail
  with_reducible refine hde.out.mono ?_
  rintro x w2 ⟨rfl, hU⟩
  have hr2 := hr.out.upd (p' := { p with l := p.l - 1 }) (rl' := rl2) (by show Upd R (.cells (rcells _ _ p.armed rl2 p.gone) _ _) _ _; rw [hgone.out]; exact hU) rfl rfl hrl4.out hrl3
  have hO2 : Only (fun k => k = R) w w2 := Only.ofUpd hU rfl
  have hs2 := hO2.size
  have harg2 := hO2.argB harg.out (fun b o e => (haS.out b o none e).2)
  obtain ⟨aw, cw, e2, -⟩ := hr2.waits.form
  subst e2
  have c1 : w2.cell? ⟨R, 1, none⟩ = some (.slice aw p.ws.length cw) := by rw [hr2.c]; rfl
  have f1 := hr2.free 1
  have hws2 := Lib.hid hr2.waits
  have hRl := block_lt hr2.at_
  replace hU := Lib.hid hU
  replace hr2 := Lib.hid hr2
  replace hO2 := Lib.hid hO2
  replace harg2 := Lib.hid harg2
  clear hde
  have hw2 := hws2.out
  have hG3 : Below w2.heap.size w2 (w2.alloc (.cells #[] 77)) := (Below.refl _ _).alloc (Nat.le_refl _) _
  have hrow3 := Lib.hid (hw2.below liesRWt hG3)
  have hg3 : Hid ((w2.alloc (.cells #[] 77)).heap[w2.heap.size]? = some (.cells #[] 77 (0, 0))) := Lib.hid (heap_alloc_new w2 _)
  have hFg : Hid (¬ F w2.heap.size) := Lib.hid (fun e => Nat.lt_irrefl _ (hw2.lt _ e))
  have hA3 := Lib.hid (harg2.out.below hG3)
  have hs3 : (w2.alloc (.cells #[] 77)).heap.size = w2.heap.size + 1 := World.size_alloc ..
  have hRn : R ≠ w2.heap.size := by omega
  have hb2 : base ≤ w2.heap.size := by omega
  have hbl2 := Lib.hid hbl
  have hG3' := Lib.hid hG3
  have hRs3 := Lib.hid hs3
  clear hws2 hw2 hG3 hs3
  have hbld := build_wtR i
  have hsli := slice_wtR i
  go_wp2_with (first
    | (at_builtin; (with_reducible refine wpList_appRowsAll (base' := base) (g := w2.heap.size) (F := F) (ps := p.ws) rfl liesRWt (.tmp 28) (.tmp 32) 49 rfl Tryd.underlying49 32 hfin.out (by decide) rfl hrow3 rfl hg3 hb2 hFg (by omega) (by decide) ?_); intro v4 w4 hr4 hO4 hv4; obtain ⟨a4, c4, e4, -⟩ := hr4.out.form; subst e4; have ho5 := Lib.hid (owns_made0 w4 w4.heap.size (Nat.le_refl _)); have hb4 := Lib.hid (hG3'.out.trans (hO4.out.below (by have := hRs3.out; omega) (fun k hk => Nat.le_of_eq hk.symm))); have hG5 : Below w4.heap.size w4 (w4.alloc (.cells #[] 5)) := (Below.refl _ _).alloc (Nat.le_refl _) _; have hA5 := Lib.hid ((harg2.out.below hb4.out).below hG5); have hb5 := Lib.hid (hb4.out.trans (hG5.mono hb4.out.size)); have hr5 := Lib.hid (hr4.out.below liesRWt hG5); have hG45 := Lib.hid hG5; have hz5 : w4.heap.size ≤ (w4.alloc (.cells #[] 5)).heap.size := hG5.size; clear hG5)
    | (at_builtin; (with_reducible refine wpB_app rfl (.tmp 35) (.tmp 36) rfl w4.heap.size (.slice (some ⟨w4.heap.size, 0, none⟩) 0 0) [] rfl ho5 (some ⟨bb, ob, none⟩) c bs 64 rfl hbl2 hA5 (by decide) (by decide) hz5 ?_); intro v6 w6 ho6 hb6; have hb6' := Lib.hid (show Below w4.heap.size w4 w6 from hG45.out.trans hb6.out); have ho6 : Hid (OwnB w4.heap.size w6 v6 bs) := ho6; obtain ⟨a6, c6, e6, hA6, -⟩ := ho6.out.arg; rw [hbl2.out] at e6; subst e6; have hw6 := Lib.hid (hb4.out.trans (hb6'.out.mono hb4.out.size)); have hs6 := Lib.hid hw6.out.size; have hat6 := Lib.hid ((hw6.out.block R hRl).trans hr2.out.at_); have hv4l : Hid (∀ k, (Value.slice a4 p.ws.length c4).ownBlock = some k → w2.heap.size ≤ k ∧ k < w4.heap.size) := Lib.hid (fun k hk => ⟨(hv4.out k hk).elim (fun e => Nat.le_of_eq e.symm) (fun e => by rw [e, hRs3.out]; omega), (hr4.out.ownLt k hk).2⟩); have hv6l := Lib.hid (fun k hk => World.ownsRow.lt ho6.out k hk); have hr6 := Lib.hid (hr4.out.below liesRWt hb6'.out); have hR6 : Hid (¬ ((Value.slice a4 p.ws.length c4).ownBlock = some R)) := Lib.hid (fun e => by have := (hv4l.out R e).1; omega); have hbs6 := Lib.hid (show base ≤ w6.heap.size by have := hs6.out; omega); have hy6 : Hid (RWt w6 (fun k => F k ∨ (Value.slice a6 64 c6).ownBlock = some k) (i, bs) (#[.int .i64 i, .slice a6 64 c6] : Array Value).toList) := Lib.hid ⟨a6, c6, by rw [hbl2.out], hA6, fun b o s e => .inr (by subst e; rfl)⟩; have hF6 : Hid (∀ k, F k → F k ∨ (Value.slice a6 64 c6).ownBlock = some k) := Lib.hid (fun k h => .inl h); have ha6 : Hid (∀ k, (Value.slice a4 p.ws.length c4).ownBlock = some k → ¬ (F k ∨ (Value.slice a6 64 c6).ownBlock = some k)) := Lib.hid (fun k hk h => h.elim (fun e => hr4.out.apart k hk e) (fun e => by have := (hv6l.out k e).1; have := (hv4l.out k hk).2; omega)); have hl6 : Hid (∀ k, F k ∨ (Value.slice a6 64 c6).ownBlock = some k → k < w6.heap.size) := Lib.hid (fun k h => h.elim (fun e => by have := hr4.out.lt k e; have := hb6'.out.size; omega) (fun e => (hv6l.out k e).2)); clear hA6 hb6)
    | (with_reducible refine wpList_buildV rfl 77 [(0, .tmp 34), (1, .tmp 37)] rfl [(0, .int .i64 i), (1, .slice a6 64 c6)] rfl (.agg #[.int .i64 i, .slice a6 64 c6]) (hbld _ _ _ _) ?_)
    | (at_builtin; (with_reducible refine wpList_appRows (v := .slice a4 p.ws.length c4) (P := Tryd.prog) (R := RWt) (e := 77) (size := 2) (base := base) (F := F) (F' := fun k => F k ∨ (Value.slice a6 64 c6).ownBlock = some k) (ps := p.ws) rfl liesRWt (.tmp 33) (.tmp 39) 49 rfl Tryd.underlying49 32 hfin.out (by decide) rfl hr6 (i, bs) #[.int .i64 i, .slice a6 64 c6] hy6 hF6 ha6 hl6 rfl (by omega) (by decide) hbs6.out ?_); intro v8 w8 hr8 hO8 hM8; obtain ⟨a8, c8, e8, -⟩ := hr8.out.form; rw [List.length_append, List.length_singleton] at e8; subst e8; have k8 := Lib.hid (hO8.out.heap hat6.out hR6.out); have c8' : w8.cell? ⟨R, 1, none⟩ = some (.slice aw p.ws.length cw) := (by rw [cell_of_block k8.out]; rfl); have f8 : w8.frozen? ⟨R, 1, none⟩ = false := free_of_block k8.out _))
  go_ret
  have hU9 := (Upd.refl k8.out).setCell (j := 1) (.slice a8 (p.ws.length + 1) c8)
  obtain ⟨h1, h2, h3⟩ := RefD.written hr2.out hw6.out hr8.out hO8.out hM8.out (fun k hk => (hv4l.out k hk).1) hF6.out (fun k hk => hk.imp id (fun e => by have := (hv6l.out k e).1; have := hb4.out.size; omega)) hU9 hi hi2 hbl
  refine ⟨rfl, RStep.mk' h.out hbs h1 (((hO2.out.trans h2 (fun _ _ e => e))).mono (fun _ _ e => e ▸ hS.out.1)) (fun k hk => .inl (hS.out.2.1 k hk)) (fun k hk => .inr (by have := h3 k hk; omega)) (fun k hk => Or.imp (fun e => hS.out.2.2.2 k e) (fun e => by have := (hv6l.out k e).1; have := hb4.out.size; omega) hk)⟩
end Go.Proofs.YtdgilgnaoifpcaaDoor
