/- The reader of records: rest, for kinds 2, 3, 4. Printed by genrest.py. -/
import Derived.Test.YtahnicbokdbjdaaDoorF18ParsSaid20
namespace Go.Proofs.YtahnicbokdbjdaaDoor
open Go.RowKit
set_option linter.unusedVariables false

/-- The cells of a record in block p that may be written. -/
theorem Rc.cellsW (x : Rc) (h1 : x.root.length = 32) (h2 : x.file.length = 32) {b : Nat} {W : World} {T : TypeId} (h : W.heap[b]? = some (.cells x.list.toArray T (0, 0))) :
    (W.cell? ⟨b, 0, none⟩ = some (.int .i64 x.kind) ∧ W.cell? ⟨b, 1, none⟩ = some (.int .i64 x.obj) ∧ W.cell? ⟨b, 2, none⟩ = some (.int .i64 x.id) ∧ W.cell? ⟨b, 3, none⟩ = some (.string x.name) ∧
    W.cell? ⟨b, 74, none⟩ = some (.int .i64 x.way) ∧ W.cell? ⟨b, 75, none⟩ = some (.int .i64 x.index) ∧ W.cell? ⟨b, 76, none⟩ = some (.int .i64 x.verdict) ∧ W.cell? ⟨b, 77, none⟩ = some (.int .i64 x.tick)) ∧
    W.frozen? ⟨b, 1, none⟩ = false ∧ W.frozen? ⟨b, 2, none⟩ = false ∧ W.frozen? ⟨b, 3, none⟩ = false ∧ W.frozen? ⟨b, 74, none⟩ = false ∧ W.frozen? ⟨b, 75, none⟩ = false ∧ W.frozen? ⟨b, 76, none⟩ = false ∧ W.frozen? ⟨b, 77, none⟩ = false := by
  refine ⟨⟨?_, ?_, ?_, ?_, ?_, ?_, ?_, ?_⟩, free_of_block h _, free_of_block h _, free_of_block h _, free_of_block h _, free_of_block h _, free_of_block h _, free_of_block h _⟩
  all_goals rw [cell_of_block h, List.getElem?_toArray]
  · exact x.c0
  · exact x.c1
  · exact x.c2
  · exact x.c3
  · exact Rc.c74 h1 h2
  · exact Rc.c75 h1 h2
  · exact Rc.c76 h1 h2
  · exact Rc.c77 h1 h2
def RestPost (p q B : Nat) (y : Rc) (bs : List UInt8) (sh : Bool) (w : World) (e : Ending) (w' : World) : Prop :=
  e = .returned (.slice none 0 0) ∧ w'.heap[p]? = some (.cells y.list.toArray 31 (0, 0)) ∧ RdM w' q B bs sh ∧ Only (fun k => k = p ∨ k = q) w w'
def nB (s : List UInt8 × Bool) (n : Nat) : List UInt8 × Bool := (takeB s.1 s.2 n, takeS s.1 s.2 n)
def nO (s : List UInt8 × Bool) (n : Nat) : List UInt8 := takeO s.1 s.2 n
def nN (s : List UInt8 × Bool) (n : Nat) : Int := (numG (takeO s.1 s.2 n) 0 : Nat)
theorem nB_le (s : List UInt8 × Bool) (n : Nat) : (nB s n).1.length ≤ s.1.length := takeB_le _ _ _
/-- number at a state. -/
theorem number_at (q B : Nat) (s : List UInt8 × Bool) (n : Nat) (w : World) (h : RdM w q B s.1 s.2) (hn : n ≤ 8) (hm : s.1.length ≤ 1000000) : Calls Tryd.prog 31 #[.pointer (some ⟨q, 0, none⟩), .int .i64 (n : Int)] w fun e w' => e = .returned (.int .i64 (nN s n)) ∧ RdM w' q B (nB s n).1 (nB s n).2 ∧ Only (fun k => k = q) w w' := number_any q B s.1 s.2 n w h hn hm

def Rc.rest2 (x : Rc) (s : List UInt8 × Bool) : Rc := { x with obj := nN s 8, id := nN (nB s 8) 8, way := nN (nB (nB s 8) 8) 1, index := nN (nB (nB (nB s 8) 8) 1) 4, tick := nN (nB (nB (nB (nB s 8) 8) 1) 4) 8 }
def restS2 (s : List UInt8 × Bool) : List UInt8 × Bool := (nB (nB (nB (nB (nB s 8) 8) 1) 4) 8)
set_option maxRecDepth 100000 in
set_option maxHeartbeats 1000000 in
theorem rest_k2 (p q B : Nat) (x : Rc) (s : List UInt8 × Bool) (w : World) (h1 : x.root.length = 32) (h2 : x.file.length = 32) (hk : x.kind = 2) (hP : w.heap[p]? = some (.cells x.list.toArray 31 (0, 0))) (hR : RdM w q B s.1 s.2) (hpq : p ≠ q) (hB : B ≤ p) (hm : s.1.length ≤ 1000000) :
    Calls Tryd.prog 32 #[.pointer (some ⟨q, 0, none⟩), .pointer (some ⟨p, 0, none⟩)] w (RestPost p q B (x.rest2 s) (restS2 s).1 (restS2 s).2 w) := by
  unfold Rc.rest2 restS2
  have hO0 : Only (fun k => k = p ∨ k = q) w w := Only.refl _ _
  have hn0 : ∀ W, RdM W q B s.1 s.2 → Calls Tryd.prog 31 #[.pointer (some ⟨q, 0, none⟩), .int .i64 8] W fun e w2 => e = .returned (.int .i64 (nN s 8)) ∧ RdM w2 q B (nB s 8).1 (nB s 8).2 ∧ Only (fun k => k = q) W w2 := fun W h => number_at q B s 8 W h (by decide) hm
  have hm0 : (nB s 8).1.length ≤ 1000000 := Nat.le_trans (nB_le _ _) hm
  have hn1 : ∀ W, RdM W q B (nB s 8).1 (nB s 8).2 → Calls Tryd.prog 31 #[.pointer (some ⟨q, 0, none⟩), .int .i64 8] W fun e w2 => e = .returned (.int .i64 (nN (nB s 8) 8)) ∧ RdM w2 q B (nB (nB s 8) 8).1 (nB (nB s 8) 8).2 ∧ Only (fun k => k = q) W w2 := fun W h => number_at q B (nB s 8) 8 W h (by decide) hm0
  have hm1 : (nB (nB s 8) 8).1.length ≤ 1000000 := Nat.le_trans (nB_le _ _) hm0
  have hn2 : ∀ W, RdM W q B (nB (nB s 8) 8).1 (nB (nB s 8) 8).2 → Calls Tryd.prog 31 #[.pointer (some ⟨q, 0, none⟩), .int .i64 1] W fun e w2 => e = .returned (.int .i64 (nN (nB (nB s 8) 8) 1)) ∧ RdM w2 q B (nB (nB (nB s 8) 8) 1).1 (nB (nB (nB s 8) 8) 1).2 ∧ Only (fun k => k = q) W w2 := fun W h => number_at q B (nB (nB s 8) 8) 1 W h (by decide) hm1
  have hm2 : (nB (nB (nB s 8) 8) 1).1.length ≤ 1000000 := Nat.le_trans (nB_le _ _) hm1
  have hn3 : ∀ W, RdM W q B (nB (nB (nB s 8) 8) 1).1 (nB (nB (nB s 8) 8) 1).2 → Calls Tryd.prog 31 #[.pointer (some ⟨q, 0, none⟩), .int .i64 4] W fun e w2 => e = .returned (.int .i64 (nN (nB (nB (nB s 8) 8) 1) 4)) ∧ RdM w2 q B (nB (nB (nB (nB s 8) 8) 1) 4).1 (nB (nB (nB (nB s 8) 8) 1) 4).2 ∧ Only (fun k => k = q) W w2 := fun W h => number_at q B (nB (nB (nB s 8) 8) 1) 4 W h (by decide) hm2
  have hm3 : (nB (nB (nB (nB s 8) 8) 1) 4).1.length ≤ 1000000 := Nat.le_trans (nB_le _ _) hm2
  have hn4 : ∀ W, RdM W q B (nB (nB (nB (nB s 8) 8) 1) 4).1 (nB (nB (nB (nB s 8) 8) 1) 4).2 → Calls Tryd.prog 31 #[.pointer (some ⟨q, 0, none⟩), .int .i64 8] W fun e w2 => e = .returned (.int .i64 (nN (nB (nB (nB (nB s 8) 8) 1) 4) 8)) ∧ RdM w2 q B (nB (nB (nB (nB (nB s 8) 8) 1) 4) 8).1 (nB (nB (nB (nB (nB s 8) 8) 1) 4) 8).2 ∧ Only (fun k => k = q) W w2 := fun W h => number_at q B (nB (nB (nB (nB s 8) 8) 1) 4) 8 W h (by decide) hm3
  have hm4 : (nB (nB (nB (nB (nB s 8) 8) 1) 4) 8).1.length ≤ 1000000 := Nat.le_trans (nB_le _ _) hm3
  generalize nB s 8 = z1 at *
  generalize nB z1 8 = z2 at *
  generalize nB z2 1 = z3 at *
  generalize nB z3 4 = z4 at *
  generalize nB z4 8 = z5 at *
  generalize nN s 8 = n0 at *
  replace hn0 := Lib.hid hn0
  generalize nN z1 8 = n1 at *
  replace hn1 := Lib.hid hn1
  generalize nN z2 1 = n2 at *
  replace hn2 := Lib.hid hn2
  generalize nN z3 4 = n3 at *
  replace hn3 := Lib.hid hn3
  generalize nN z4 8 = n4 at *
  replace hn4 := Lib.hid hn4
  have hs0 : x.list.toArray.setIfInBounds 1 (.int .i64 n0) = ({ x with obj := n0 } : Rc).list.toArray := Rc.set1 x n0
  have hs1 : ({ x with obj := n0 } : Rc).list.toArray.setIfInBounds 2 (.int .i64 n1) = ({ x with obj := n0, id := n1 } : Rc).list.toArray := Rc.set2 ({ x with obj := n0 } : Rc) n1
  have hs2 : ({ x with obj := n0, id := n1 } : Rc).list.toArray.setIfInBounds 74 (.int .i64 n2) = ({ x with obj := n0, id := n1, way := n2 } : Rc).list.toArray := Rc.set74 (x := ({ x with obj := n0, id := n1 } : Rc)) h1 h2 n2
  have hs3 : ({ x with obj := n0, id := n1, way := n2 } : Rc).list.toArray.setIfInBounds 75 (.int .i64 n3) = ({ x with obj := n0, id := n1, way := n2, index := n3 } : Rc).list.toArray := Rc.set75 (x := ({ x with obj := n0, id := n1, way := n2 } : Rc)) h1 h2 n3
  have hs4 : ({ x with obj := n0, id := n1, way := n2, index := n3 } : Rc).list.toArray.setIfInBounds 77 (.int .i64 n4) = ({ x with obj := n0, id := n1, way := n2, index := n3, tick := n4 } : Rc).list.toArray := Rc.set77 (x := ({ x with obj := n0, id := n1, way := n2, index := n3 } : Rc)) h1 h2 n4
  have hc0 := fun (W : World) (h : W.heap[p]? = some (.cells x.list.toArray 31 (0, 0))) => Rc.cellsW x h1 h2 h
  have hc1 := fun (W : World) (h : W.heap[p]? = some (.cells ({ x with obj := n0 } : Rc).list.toArray 31 (0, 0))) => Rc.cellsW ({ x with obj := n0 } : Rc) h1 h2 h
  have hc2 := fun (W : World) (h : W.heap[p]? = some (.cells ({ x with obj := n0, id := n1 } : Rc).list.toArray 31 (0, 0))) => Rc.cellsW ({ x with obj := n0, id := n1 } : Rc) h1 h2 h
  have hc3 := fun (W : World) (h : W.heap[p]? = some (.cells ({ x with obj := n0, id := n1, way := n2 } : Rc).list.toArray 31 (0, 0))) => Rc.cellsW ({ x with obj := n0, id := n1, way := n2 } : Rc) h1 h2 h
  have hc4 := fun (W : World) (h : W.heap[p]? = some (.cells ({ x with obj := n0, id := n1, way := n2, index := n3 } : Rc).list.toArray 31 (0, 0))) => Rc.cellsW ({ x with obj := n0, id := n1, way := n2, index := n3 } : Rc) h1 h2 h
  have hc5 := fun (W : World) (h : W.heap[p]? = some (.cells ({ x with obj := n0, id := n1, way := n2, index := n3, tick := n4 } : Rc).list.toArray 31 (0, 0))) => Rc.cellsW ({ x with obj := n0, id := n1, way := n2, index := n3, tick := n4 } : Rc) h1 h2 h
  generalize x.list.toArray = R0 at *
  replace hc0 := Lib.hid hc0
  generalize ({ x with obj := n0 } : Rc).list.toArray = R1 at *
  replace hc1 := Lib.hid hc1
  generalize ({ x with obj := n0, id := n1 } : Rc).list.toArray = R2 at *
  replace hc2 := Lib.hid hc2
  generalize ({ x with obj := n0, id := n1, way := n2 } : Rc).list.toArray = R3 at *
  replace hc3 := Lib.hid hc3
  generalize ({ x with obj := n0, id := n1, way := n2, index := n3 } : Rc).list.toArray = R4 at *
  replace hc4 := Lib.hid hc4
  generalize hRl : ({ x with obj := n0, id := n1, way := n2, index := n3, tick := n4 } : Rc).list.toArray = R5 at *
  replace hc5 := Lib.hid hc5
  replace hs0 := Lib.hid hs0
  replace hs1 := Lib.hid hs1
  replace hs2 := Lib.hid hs2
  replace hs3 := Lib.hid hs3
  replace hs4 := Lib.hid hs4
  replace hRl := Lib.hid hRl
  replace hR := Lib.hid hR
  replace hP := Lib.hid hP
  obtain ⟨⟨q0, q1, q2, q3, q4, q5, q6, q7⟩, g1, g2, g3, g4, g5, g6, g7⟩ := hc0.out _ hP.out
  rw [hk] at *
  replace hO0 := Lib.hid hO0
  clear h1 h2 hk
  go_enter Tryd.func32, Tryd.ntmps32
  go_wp2_with fail
  with_reducible refine (hn0.out _ hR.out).mono ?_
  rintro e wa ⟨rfl, hr0, ho0⟩
  have hP_wa := Lib.hid (ho0.heap hP.out (by omega))
  have hO_wa := Lib.hid (hO0.out.trans ho0 (fun k _ e => .inr e))
  replace hr0 := Lib.hid hr0
  clear ho0 q0 q1 q2 q3 q4 q5 q6 q7 g1 g2 g3 g4 g5 g6 g7
  obtain ⟨⟨q0, q1, q2, q3, q4, q5, q6, q7⟩, g1, g2, g3, g4, g5, g6, g7⟩ := hc0.out _ hP_wa.out
  obtain ⟨wb, hw_wb⟩ : ∃ W, W = wa.setCell ⟨p, 1, none⟩ (.int .i64 n0) := ⟨_, rfl⟩
  have hU_wb := (Upd.refl hP_wa.out).setCell (j := 1) (.int .i64 n0)
  rw [hs0.out, ← hw_wb] at hU_wb
  have hP_wb := Lib.hid hU_wb.here
  have hO_wb := Lib.hid (hO_wa.out.trans (Only.ofUpd (D := fun k => k = p ∨ k = q) hU_wb (.inl rfl)) (fun k _ e => e))
  have hr_wb := Lib.hid (hr0.out.only (D := fun k => k = p) (Only.ofUpd hU_wb rfl) (by omega) (by intro k hk; omega))
  replace hw_wb := Lib.hid hw_wb
  clear hU_wb
  have hcb := hc1.out _ hP_wb.out
  obtain ⟨⟨b0, _⟩, _⟩ := hcb
  rw [hw_wb.out] at b0
  go_wp2_with fail
  rw [← hw_wb.out]
  clear b0
  clear q0 q1 q2 q3 q4 q5 q6 q7 g1 g2 g3 g4 g5 g6 g7
  obtain ⟨⟨q0, q1, q2, q3, q4, q5, q6, q7⟩, g1, g2, g3, g4, g5, g6, g7⟩ := hc1.out _ hP_wb.out
  with_reducible refine (hn1.out _ hr_wb.out).mono ?_
  rintro e wc0 ⟨rfl, hr1, ho1⟩
  have hP_wc0 := Lib.hid (ho1.heap hP_wb.out (by omega))
  have hO_wc0 := Lib.hid (hO_wb.out.trans ho1 (fun k _ e => .inr e))
  replace hr1 := Lib.hid hr1
  clear ho1 q0 q1 q2 q3 q4 q5 q6 q7 g1 g2 g3 g4 g5 g6 g7
  obtain ⟨⟨q0, q1, q2, q3, q4, q5, q6, q7⟩, g1, g2, g3, g4, g5, g6, g7⟩ := hc1.out _ hP_wc0.out
  go_wp2_with fail
  with_reducible refine (hn2.out _ hr1.out).mono ?_
  rintro e wc1 ⟨rfl, hr2, ho2⟩
  have hP_wc1 := Lib.hid (ho2.heap hP_wc0.out (by omega))
  have hO_wc1 := Lib.hid (hO_wc0.out.trans ho2 (fun k _ e => .inr e))
  replace hr2 := Lib.hid hr2
  clear ho2 q0 q1 q2 q3 q4 q5 q6 q7 g1 g2 g3 g4 g5 g6 g7
  obtain ⟨⟨q0, q1, q2, q3, q4, q5, q6, q7⟩, g1, g2, g3, g4, g5, g6, g7⟩ := hc1.out _ hP_wc1.out
  go_wp2_with fail
  with_reducible refine (hn3.out _ hr2.out).mono ?_
  rintro e wc2 ⟨rfl, hr3, ho3⟩
  have hP_wc2 := Lib.hid (ho3.heap hP_wc1.out (by omega))
  have hO_wc2 := Lib.hid (hO_wc1.out.trans ho3 (fun k _ e => .inr e))
  replace hr3 := Lib.hid hr3
  clear ho3 q0 q1 q2 q3 q4 q5 q6 q7 g1 g2 g3 g4 g5 g6 g7
  obtain ⟨⟨q0, q1, q2, q3, q4, q5, q6, q7⟩, g1, g2, g3, g4, g5, g6, g7⟩ := hc1.out _ hP_wc2.out
  obtain ⟨wd0, hw_wd0⟩ : ∃ W, W = wc2.setCell ⟨p, 2, none⟩ (.int .i64 n1) := ⟨_, rfl⟩
  have hU_wd0 := (Upd.refl hP_wc2.out).setCell (j := 2) (.int .i64 n1)
  rw [hs1.out, ← hw_wd0] at hU_wd0
  have hP_wd0 := Lib.hid hU_wd0.here
  have hO_wd0 := Lib.hid (hO_wc2.out.trans (Only.ofUpd (D := fun k => k = p ∨ k = q) hU_wd0 (.inl rfl)) (fun k _ e => e))
  have hr_wd0 := Lib.hid (hr3.out.only (D := fun k => k = p) (Only.ofUpd hU_wd0 rfl) (by omega) (by intro k hk; omega))
  replace hw_wd0 := Lib.hid hw_wd0
  clear hU_wd0
  obtain ⟨wd1, hw_wd1⟩ : ∃ W, W = wd0.setCell ⟨p, 74, none⟩ (.int .i64 n2) := ⟨_, rfl⟩
  have hU_wd1 := (Upd.refl hP_wd0.out).setCell (j := 74) (.int .i64 n2)
  rw [hs2.out, ← hw_wd1] at hU_wd1
  have hP_wd1 := Lib.hid hU_wd1.here
  have hO_wd1 := Lib.hid (hO_wd0.out.trans (Only.ofUpd (D := fun k => k = p ∨ k = q) hU_wd1 (.inl rfl)) (fun k _ e => e))
  have hr_wd1 := Lib.hid (hr_wd0.out.only (D := fun k => k = p) (Only.ofUpd hU_wd1 rfl) (by omega) (by intro k hk; omega))
  replace hw_wd1 := Lib.hid hw_wd1
  clear hU_wd1
  obtain ⟨wd2, hw_wd2⟩ : ∃ W, W = wd1.setCell ⟨p, 75, none⟩ (.int .i64 n3) := ⟨_, rfl⟩
  have hU_wd2 := (Upd.refl hP_wd1.out).setCell (j := 75) (.int .i64 n3)
  rw [hs3.out, ← hw_wd2] at hU_wd2
  have hP_wd2 := Lib.hid hU_wd2.here
  have hO_wd2 := Lib.hid (hO_wd1.out.trans (Only.ofUpd (D := fun k => k = p ∨ k = q) hU_wd2 (.inl rfl)) (fun k _ e => e))
  have hr_wd2 := Lib.hid (hr_wd1.out.only (D := fun k => k = p) (Only.ofUpd hU_wd2 rfl) (by omega) (by intro k hk; omega))
  replace hw_wd2 := Lib.hid hw_wd2
  clear hU_wd2
  go_wp2_with fail
  rw [← hw_wd0.out]
  rw [← hw_wd1.out]
  rw [← hw_wd2.out]
  clear q0 q1 q2 q3 q4 q5 q6 q7 g1 g2 g3 g4 g5 g6 g7
  obtain ⟨⟨q0, q1, q2, q3, q4, q5, q6, q7⟩, g1, g2, g3, g4, g5, g6, g7⟩ := hc4.out _ hP_wd2.out
  with_reducible refine (hn4.out _ hr_wd2.out).mono ?_
  rintro e we ⟨rfl, hr4, ho4⟩
  have hP_we := Lib.hid (ho4.heap hP_wd2.out (by omega))
  have hO_we := Lib.hid (hO_wd2.out.trans ho4 (fun k _ e => .inr e))
  replace hr4 := Lib.hid hr4
  clear ho4 q0 q1 q2 q3 q4 q5 q6 q7 g1 g2 g3 g4 g5 g6 g7
  obtain ⟨⟨q0, q1, q2, q3, q4, q5, q6, q7⟩, g1, g2, g3, g4, g5, g6, g7⟩ := hc4.out _ hP_we.out
  obtain ⟨wf, hw_wf⟩ : ∃ W, W = we.setCell ⟨p, 77, none⟩ (.int .i64 n4) := ⟨_, rfl⟩
  have hU_wf := (Upd.refl hP_we.out).setCell (j := 77) (.int .i64 n4)
  rw [hs4.out, ← hw_wf] at hU_wf
  have hP_wf := Lib.hid hU_wf.here
  have hO_wf := Lib.hid (hO_we.out.trans (Only.ofUpd (D := fun k => k = p ∨ k = q) hU_wf (.inl rfl)) (fun k _ e => e))
  have hr_wf := Lib.hid (hr4.out.only (D := fun k => k = p) (Only.ofUpd hU_wf rfl) (by omega) (by intro k hk; omega))
  replace hw_wf := Lib.hid hw_wf
  clear hU_wf
  go_wp2_with fail
  go_ret
  rw [← hw_wf.out]
  exact ⟨rfl, hP_wf.out.trans (by rw [hRl.out]), hr_wf.out, hO_wf.out⟩

def Rc.rest3 (x : Rc) (s : List UInt8 × Bool) : Rc := { x with obj := nN s 8, id := nN (nB s 8) 8, verdict := nN (nB (nB s 8) 8) 1, tick := nN (nB (nB (nB s 8) 8) 1) 8 }
def restS3 (s : List UInt8 × Bool) : List UInt8 × Bool := (nB (nB (nB (nB s 8) 8) 1) 8)
set_option maxRecDepth 100000 in
set_option maxHeartbeats 1000000 in
theorem rest_k3 (p q B : Nat) (x : Rc) (s : List UInt8 × Bool) (w : World) (h1 : x.root.length = 32) (h2 : x.file.length = 32) (hk : x.kind = 3) (hP : w.heap[p]? = some (.cells x.list.toArray 31 (0, 0))) (hR : RdM w q B s.1 s.2) (hpq : p ≠ q) (hB : B ≤ p) (hm : s.1.length ≤ 1000000) :
    Calls Tryd.prog 32 #[.pointer (some ⟨q, 0, none⟩), .pointer (some ⟨p, 0, none⟩)] w (RestPost p q B (x.rest3 s) (restS3 s).1 (restS3 s).2 w) := by
  unfold Rc.rest3 restS3
  have hO0 : Only (fun k => k = p ∨ k = q) w w := Only.refl _ _
  have hn0 : ∀ W, RdM W q B s.1 s.2 → Calls Tryd.prog 31 #[.pointer (some ⟨q, 0, none⟩), .int .i64 8] W fun e w2 => e = .returned (.int .i64 (nN s 8)) ∧ RdM w2 q B (nB s 8).1 (nB s 8).2 ∧ Only (fun k => k = q) W w2 := fun W h => number_at q B s 8 W h (by decide) hm
  have hm0 : (nB s 8).1.length ≤ 1000000 := Nat.le_trans (nB_le _ _) hm
  have hn1 : ∀ W, RdM W q B (nB s 8).1 (nB s 8).2 → Calls Tryd.prog 31 #[.pointer (some ⟨q, 0, none⟩), .int .i64 8] W fun e w2 => e = .returned (.int .i64 (nN (nB s 8) 8)) ∧ RdM w2 q B (nB (nB s 8) 8).1 (nB (nB s 8) 8).2 ∧ Only (fun k => k = q) W w2 := fun W h => number_at q B (nB s 8) 8 W h (by decide) hm0
  have hm1 : (nB (nB s 8) 8).1.length ≤ 1000000 := Nat.le_trans (nB_le _ _) hm0
  have hn2 : ∀ W, RdM W q B (nB (nB s 8) 8).1 (nB (nB s 8) 8).2 → Calls Tryd.prog 31 #[.pointer (some ⟨q, 0, none⟩), .int .i64 1] W fun e w2 => e = .returned (.int .i64 (nN (nB (nB s 8) 8) 1)) ∧ RdM w2 q B (nB (nB (nB s 8) 8) 1).1 (nB (nB (nB s 8) 8) 1).2 ∧ Only (fun k => k = q) W w2 := fun W h => number_at q B (nB (nB s 8) 8) 1 W h (by decide) hm1
  have hm2 : (nB (nB (nB s 8) 8) 1).1.length ≤ 1000000 := Nat.le_trans (nB_le _ _) hm1
  have hn3 : ∀ W, RdM W q B (nB (nB (nB s 8) 8) 1).1 (nB (nB (nB s 8) 8) 1).2 → Calls Tryd.prog 31 #[.pointer (some ⟨q, 0, none⟩), .int .i64 8] W fun e w2 => e = .returned (.int .i64 (nN (nB (nB (nB s 8) 8) 1) 8)) ∧ RdM w2 q B (nB (nB (nB (nB s 8) 8) 1) 8).1 (nB (nB (nB (nB s 8) 8) 1) 8).2 ∧ Only (fun k => k = q) W w2 := fun W h => number_at q B (nB (nB (nB s 8) 8) 1) 8 W h (by decide) hm2
  have hm3 : (nB (nB (nB (nB s 8) 8) 1) 8).1.length ≤ 1000000 := Nat.le_trans (nB_le _ _) hm2
  generalize nB s 8 = z1 at *
  generalize nB z1 8 = z2 at *
  generalize nB z2 1 = z3 at *
  generalize nB z3 8 = z4 at *
  generalize nN s 8 = n0 at *
  replace hn0 := Lib.hid hn0
  generalize nN z1 8 = n1 at *
  replace hn1 := Lib.hid hn1
  generalize nN z2 1 = n2 at *
  replace hn2 := Lib.hid hn2
  generalize nN z3 8 = n3 at *
  replace hn3 := Lib.hid hn3
  have hs0 : x.list.toArray.setIfInBounds 1 (.int .i64 n0) = ({ x with obj := n0 } : Rc).list.toArray := Rc.set1 x n0
  have hs1 : ({ x with obj := n0 } : Rc).list.toArray.setIfInBounds 2 (.int .i64 n1) = ({ x with obj := n0, id := n1 } : Rc).list.toArray := Rc.set2 ({ x with obj := n0 } : Rc) n1
  have hs2 : ({ x with obj := n0, id := n1 } : Rc).list.toArray.setIfInBounds 76 (.int .i64 n2) = ({ x with obj := n0, id := n1, verdict := n2 } : Rc).list.toArray := Rc.set76 (x := ({ x with obj := n0, id := n1 } : Rc)) h1 h2 n2
  have hs3 : ({ x with obj := n0, id := n1, verdict := n2 } : Rc).list.toArray.setIfInBounds 77 (.int .i64 n3) = ({ x with obj := n0, id := n1, verdict := n2, tick := n3 } : Rc).list.toArray := Rc.set77 (x := ({ x with obj := n0, id := n1, verdict := n2 } : Rc)) h1 h2 n3
  have hc0 := fun (W : World) (h : W.heap[p]? = some (.cells x.list.toArray 31 (0, 0))) => Rc.cellsW x h1 h2 h
  have hc1 := fun (W : World) (h : W.heap[p]? = some (.cells ({ x with obj := n0 } : Rc).list.toArray 31 (0, 0))) => Rc.cellsW ({ x with obj := n0 } : Rc) h1 h2 h
  have hc2 := fun (W : World) (h : W.heap[p]? = some (.cells ({ x with obj := n0, id := n1 } : Rc).list.toArray 31 (0, 0))) => Rc.cellsW ({ x with obj := n0, id := n1 } : Rc) h1 h2 h
  have hc3 := fun (W : World) (h : W.heap[p]? = some (.cells ({ x with obj := n0, id := n1, verdict := n2 } : Rc).list.toArray 31 (0, 0))) => Rc.cellsW ({ x with obj := n0, id := n1, verdict := n2 } : Rc) h1 h2 h
  have hc4 := fun (W : World) (h : W.heap[p]? = some (.cells ({ x with obj := n0, id := n1, verdict := n2, tick := n3 } : Rc).list.toArray 31 (0, 0))) => Rc.cellsW ({ x with obj := n0, id := n1, verdict := n2, tick := n3 } : Rc) h1 h2 h
  generalize x.list.toArray = R0 at *
  replace hc0 := Lib.hid hc0
  generalize ({ x with obj := n0 } : Rc).list.toArray = R1 at *
  replace hc1 := Lib.hid hc1
  generalize ({ x with obj := n0, id := n1 } : Rc).list.toArray = R2 at *
  replace hc2 := Lib.hid hc2
  generalize ({ x with obj := n0, id := n1, verdict := n2 } : Rc).list.toArray = R3 at *
  replace hc3 := Lib.hid hc3
  generalize hRl : ({ x with obj := n0, id := n1, verdict := n2, tick := n3 } : Rc).list.toArray = R4 at *
  replace hc4 := Lib.hid hc4
  replace hs0 := Lib.hid hs0
  replace hs1 := Lib.hid hs1
  replace hs2 := Lib.hid hs2
  replace hs3 := Lib.hid hs3
  replace hRl := Lib.hid hRl
  replace hR := Lib.hid hR
  replace hP := Lib.hid hP
  obtain ⟨⟨q0, q1, q2, q3, q4, q5, q6, q7⟩, g1, g2, g3, g4, g5, g6, g7⟩ := hc0.out _ hP.out
  rw [hk] at *
  replace hO0 := Lib.hid hO0
  clear h1 h2 hk
  go_enter Tryd.func32, Tryd.ntmps32
  go_wp2_with fail
  with_reducible refine (hn0.out _ hR.out).mono ?_
  rintro e wa ⟨rfl, hr0, ho0⟩
  have hP_wa := Lib.hid (ho0.heap hP.out (by omega))
  have hO_wa := Lib.hid (hO0.out.trans ho0 (fun k _ e => .inr e))
  replace hr0 := Lib.hid hr0
  clear ho0 q0 q1 q2 q3 q4 q5 q6 q7 g1 g2 g3 g4 g5 g6 g7
  obtain ⟨⟨q0, q1, q2, q3, q4, q5, q6, q7⟩, g1, g2, g3, g4, g5, g6, g7⟩ := hc0.out _ hP_wa.out
  obtain ⟨wb, hw_wb⟩ : ∃ W, W = wa.setCell ⟨p, 1, none⟩ (.int .i64 n0) := ⟨_, rfl⟩
  have hU_wb := (Upd.refl hP_wa.out).setCell (j := 1) (.int .i64 n0)
  rw [hs0.out, ← hw_wb] at hU_wb
  have hP_wb := Lib.hid hU_wb.here
  have hO_wb := Lib.hid (hO_wa.out.trans (Only.ofUpd (D := fun k => k = p ∨ k = q) hU_wb (.inl rfl)) (fun k _ e => e))
  have hr_wb := Lib.hid (hr0.out.only (D := fun k => k = p) (Only.ofUpd hU_wb rfl) (by omega) (by intro k hk; omega))
  replace hw_wb := Lib.hid hw_wb
  clear hU_wb
  have hcb := hc1.out _ hP_wb.out
  obtain ⟨⟨b0, _⟩, _⟩ := hcb
  rw [hw_wb.out] at b0
  go_wp2_with fail
  rw [← hw_wb.out]
  clear b0
  clear q0 q1 q2 q3 q4 q5 q6 q7 g1 g2 g3 g4 g5 g6 g7
  obtain ⟨⟨q0, q1, q2, q3, q4, q5, q6, q7⟩, g1, g2, g3, g4, g5, g6, g7⟩ := hc1.out _ hP_wb.out
  with_reducible refine (hn1.out _ hr_wb.out).mono ?_
  rintro e wc0 ⟨rfl, hr1, ho1⟩
  have hP_wc0 := Lib.hid (ho1.heap hP_wb.out (by omega))
  have hO_wc0 := Lib.hid (hO_wb.out.trans ho1 (fun k _ e => .inr e))
  replace hr1 := Lib.hid hr1
  clear ho1 q0 q1 q2 q3 q4 q5 q6 q7 g1 g2 g3 g4 g5 g6 g7
  obtain ⟨⟨q0, q1, q2, q3, q4, q5, q6, q7⟩, g1, g2, g3, g4, g5, g6, g7⟩ := hc1.out _ hP_wc0.out
  go_wp2_with fail
  with_reducible refine (hn2.out _ hr1.out).mono ?_
  rintro e wc1 ⟨rfl, hr2, ho2⟩
  have hP_wc1 := Lib.hid (ho2.heap hP_wc0.out (by omega))
  have hO_wc1 := Lib.hid (hO_wc0.out.trans ho2 (fun k _ e => .inr e))
  replace hr2 := Lib.hid hr2
  clear ho2 q0 q1 q2 q3 q4 q5 q6 q7 g1 g2 g3 g4 g5 g6 g7
  obtain ⟨⟨q0, q1, q2, q3, q4, q5, q6, q7⟩, g1, g2, g3, g4, g5, g6, g7⟩ := hc1.out _ hP_wc1.out
  obtain ⟨wd0, hw_wd0⟩ : ∃ W, W = wc1.setCell ⟨p, 2, none⟩ (.int .i64 n1) := ⟨_, rfl⟩
  have hU_wd0 := (Upd.refl hP_wc1.out).setCell (j := 2) (.int .i64 n1)
  rw [hs1.out, ← hw_wd0] at hU_wd0
  have hP_wd0 := Lib.hid hU_wd0.here
  have hO_wd0 := Lib.hid (hO_wc1.out.trans (Only.ofUpd (D := fun k => k = p ∨ k = q) hU_wd0 (.inl rfl)) (fun k _ e => e))
  have hr_wd0 := Lib.hid (hr2.out.only (D := fun k => k = p) (Only.ofUpd hU_wd0 rfl) (by omega) (by intro k hk; omega))
  replace hw_wd0 := Lib.hid hw_wd0
  clear hU_wd0
  obtain ⟨wd1, hw_wd1⟩ : ∃ W, W = wd0.setCell ⟨p, 76, none⟩ (.int .i64 n2) := ⟨_, rfl⟩
  have hU_wd1 := (Upd.refl hP_wd0.out).setCell (j := 76) (.int .i64 n2)
  rw [hs2.out, ← hw_wd1] at hU_wd1
  have hP_wd1 := Lib.hid hU_wd1.here
  have hO_wd1 := Lib.hid (hO_wd0.out.trans (Only.ofUpd (D := fun k => k = p ∨ k = q) hU_wd1 (.inl rfl)) (fun k _ e => e))
  have hr_wd1 := Lib.hid (hr_wd0.out.only (D := fun k => k = p) (Only.ofUpd hU_wd1 rfl) (by omega) (by intro k hk; omega))
  replace hw_wd1 := Lib.hid hw_wd1
  clear hU_wd1
  go_wp2_with fail
  rw [← hw_wd0.out]
  rw [← hw_wd1.out]
  clear q0 q1 q2 q3 q4 q5 q6 q7 g1 g2 g3 g4 g5 g6 g7
  obtain ⟨⟨q0, q1, q2, q3, q4, q5, q6, q7⟩, g1, g2, g3, g4, g5, g6, g7⟩ := hc3.out _ hP_wd1.out
  with_reducible refine (hn3.out _ hr_wd1.out).mono ?_
  rintro e we ⟨rfl, hr3, ho3⟩
  have hP_we := Lib.hid (ho3.heap hP_wd1.out (by omega))
  have hO_we := Lib.hid (hO_wd1.out.trans ho3 (fun k _ e => .inr e))
  replace hr3 := Lib.hid hr3
  clear ho3 q0 q1 q2 q3 q4 q5 q6 q7 g1 g2 g3 g4 g5 g6 g7
  obtain ⟨⟨q0, q1, q2, q3, q4, q5, q6, q7⟩, g1, g2, g3, g4, g5, g6, g7⟩ := hc3.out _ hP_we.out
  obtain ⟨wf, hw_wf⟩ : ∃ W, W = we.setCell ⟨p, 77, none⟩ (.int .i64 n3) := ⟨_, rfl⟩
  have hU_wf := (Upd.refl hP_we.out).setCell (j := 77) (.int .i64 n3)
  rw [hs3.out, ← hw_wf] at hU_wf
  have hP_wf := Lib.hid hU_wf.here
  have hO_wf := Lib.hid (hO_we.out.trans (Only.ofUpd (D := fun k => k = p ∨ k = q) hU_wf (.inl rfl)) (fun k _ e => e))
  have hr_wf := Lib.hid (hr3.out.only (D := fun k => k = p) (Only.ofUpd hU_wf rfl) (by omega) (by intro k hk; omega))
  replace hw_wf := Lib.hid hw_wf
  clear hU_wf
  go_wp2_with fail
  go_ret
  rw [← hw_wf.out]
  exact ⟨rfl, hP_wf.out.trans (by rw [hRl.out]), hr_wf.out, hO_wf.out⟩

def Rc.rest4 (x : Rc) (s : List UInt8 × Bool) : Rc := { x with obj := nN s 8, tick := nN (nB s 8) 8 }
def restS4 (s : List UInt8 × Bool) : List UInt8 × Bool := (nB (nB s 8) 8)
set_option maxRecDepth 100000 in
set_option maxHeartbeats 1000000 in
theorem rest_k4 (p q B : Nat) (x : Rc) (s : List UInt8 × Bool) (w : World) (h1 : x.root.length = 32) (h2 : x.file.length = 32) (hk : x.kind = 4) (hP : w.heap[p]? = some (.cells x.list.toArray 31 (0, 0))) (hR : RdM w q B s.1 s.2) (hpq : p ≠ q) (hB : B ≤ p) (hm : s.1.length ≤ 1000000) :
    Calls Tryd.prog 32 #[.pointer (some ⟨q, 0, none⟩), .pointer (some ⟨p, 0, none⟩)] w (RestPost p q B (x.rest4 s) (restS4 s).1 (restS4 s).2 w) := by
  unfold Rc.rest4 restS4
  have hO0 : Only (fun k => k = p ∨ k = q) w w := Only.refl _ _
  have hn0 : ∀ W, RdM W q B s.1 s.2 → Calls Tryd.prog 31 #[.pointer (some ⟨q, 0, none⟩), .int .i64 8] W fun e w2 => e = .returned (.int .i64 (nN s 8)) ∧ RdM w2 q B (nB s 8).1 (nB s 8).2 ∧ Only (fun k => k = q) W w2 := fun W h => number_at q B s 8 W h (by decide) hm
  have hm0 : (nB s 8).1.length ≤ 1000000 := Nat.le_trans (nB_le _ _) hm
  have hn1 : ∀ W, RdM W q B (nB s 8).1 (nB s 8).2 → Calls Tryd.prog 31 #[.pointer (some ⟨q, 0, none⟩), .int .i64 8] W fun e w2 => e = .returned (.int .i64 (nN (nB s 8) 8)) ∧ RdM w2 q B (nB (nB s 8) 8).1 (nB (nB s 8) 8).2 ∧ Only (fun k => k = q) W w2 := fun W h => number_at q B (nB s 8) 8 W h (by decide) hm0
  have hm1 : (nB (nB s 8) 8).1.length ≤ 1000000 := Nat.le_trans (nB_le _ _) hm0
  generalize nB s 8 = z1 at *
  generalize nB z1 8 = z2 at *
  generalize nN s 8 = n0 at *
  replace hn0 := Lib.hid hn0
  generalize nN z1 8 = n1 at *
  replace hn1 := Lib.hid hn1
  have hs0 : x.list.toArray.setIfInBounds 1 (.int .i64 n0) = ({ x with obj := n0 } : Rc).list.toArray := Rc.set1 x n0
  have hs1 : ({ x with obj := n0 } : Rc).list.toArray.setIfInBounds 77 (.int .i64 n1) = ({ x with obj := n0, tick := n1 } : Rc).list.toArray := Rc.set77 (x := ({ x with obj := n0 } : Rc)) h1 h2 n1
  have hc0 := fun (W : World) (h : W.heap[p]? = some (.cells x.list.toArray 31 (0, 0))) => Rc.cellsW x h1 h2 h
  have hc1 := fun (W : World) (h : W.heap[p]? = some (.cells ({ x with obj := n0 } : Rc).list.toArray 31 (0, 0))) => Rc.cellsW ({ x with obj := n0 } : Rc) h1 h2 h
  have hc2 := fun (W : World) (h : W.heap[p]? = some (.cells ({ x with obj := n0, tick := n1 } : Rc).list.toArray 31 (0, 0))) => Rc.cellsW ({ x with obj := n0, tick := n1 } : Rc) h1 h2 h
  generalize x.list.toArray = R0 at *
  replace hc0 := Lib.hid hc0
  generalize ({ x with obj := n0 } : Rc).list.toArray = R1 at *
  replace hc1 := Lib.hid hc1
  generalize hRl : ({ x with obj := n0, tick := n1 } : Rc).list.toArray = R2 at *
  replace hc2 := Lib.hid hc2
  replace hs0 := Lib.hid hs0
  replace hs1 := Lib.hid hs1
  replace hRl := Lib.hid hRl
  replace hR := Lib.hid hR
  replace hP := Lib.hid hP
  obtain ⟨⟨q0, q1, q2, q3, q4, q5, q6, q7⟩, g1, g2, g3, g4, g5, g6, g7⟩ := hc0.out _ hP.out
  rw [hk] at *
  replace hO0 := Lib.hid hO0
  clear h1 h2 hk
  go_enter Tryd.func32, Tryd.ntmps32
  go_wp2_with fail
  with_reducible refine (hn0.out _ hR.out).mono ?_
  rintro e wa ⟨rfl, hr0, ho0⟩
  have hP_wa := Lib.hid (ho0.heap hP.out (by omega))
  have hO_wa := Lib.hid (hO0.out.trans ho0 (fun k _ e => .inr e))
  replace hr0 := Lib.hid hr0
  clear ho0 q0 q1 q2 q3 q4 q5 q6 q7 g1 g2 g3 g4 g5 g6 g7
  obtain ⟨⟨q0, q1, q2, q3, q4, q5, q6, q7⟩, g1, g2, g3, g4, g5, g6, g7⟩ := hc0.out _ hP_wa.out
  obtain ⟨wb, hw_wb⟩ : ∃ W, W = wa.setCell ⟨p, 1, none⟩ (.int .i64 n0) := ⟨_, rfl⟩
  have hU_wb := (Upd.refl hP_wa.out).setCell (j := 1) (.int .i64 n0)
  rw [hs0.out, ← hw_wb] at hU_wb
  have hP_wb := Lib.hid hU_wb.here
  have hO_wb := Lib.hid (hO_wa.out.trans (Only.ofUpd (D := fun k => k = p ∨ k = q) hU_wb (.inl rfl)) (fun k _ e => e))
  have hr_wb := Lib.hid (hr0.out.only (D := fun k => k = p) (Only.ofUpd hU_wb rfl) (by omega) (by intro k hk; omega))
  replace hw_wb := Lib.hid hw_wb
  clear hU_wb
  have hcb := hc1.out _ hP_wb.out
  obtain ⟨⟨b0, _⟩, _⟩ := hcb
  rw [hw_wb.out] at b0
  go_wp2_with fail
  rw [← hw_wb.out]
  clear b0
  clear q0 q1 q2 q3 q4 q5 q6 q7 g1 g2 g3 g4 g5 g6 g7
  obtain ⟨⟨q0, q1, q2, q3, q4, q5, q6, q7⟩, g1, g2, g3, g4, g5, g6, g7⟩ := hc1.out _ hP_wb.out
  with_reducible refine (hn1.out _ hr_wb.out).mono ?_
  rintro e we ⟨rfl, hr1, ho1⟩
  have hP_we := Lib.hid (ho1.heap hP_wb.out (by omega))
  have hO_we := Lib.hid (hO_wb.out.trans ho1 (fun k _ e => .inr e))
  replace hr1 := Lib.hid hr1
  clear ho1 q0 q1 q2 q3 q4 q5 q6 q7 g1 g2 g3 g4 g5 g6 g7
  obtain ⟨⟨q0, q1, q2, q3, q4, q5, q6, q7⟩, g1, g2, g3, g4, g5, g6, g7⟩ := hc1.out _ hP_we.out
  obtain ⟨wf, hw_wf⟩ : ∃ W, W = we.setCell ⟨p, 77, none⟩ (.int .i64 n1) := ⟨_, rfl⟩
  have hU_wf := (Upd.refl hP_we.out).setCell (j := 77) (.int .i64 n1)
  rw [hs1.out, ← hw_wf] at hU_wf
  have hP_wf := Lib.hid hU_wf.here
  have hO_wf := Lib.hid (hO_we.out.trans (Only.ofUpd (D := fun k => k = p ∨ k = q) hU_wf (.inl rfl)) (fun k _ e => e))
  have hr_wf := Lib.hid (hr1.out.only (D := fun k => k = p) (Only.ofUpd hU_wf rfl) (by omega) (by intro k hk; omega))
  replace hw_wf := Lib.hid hw_wf
  clear hU_wf
  go_wp2_with fail
  go_ret
  rw [← hw_wf.out]
  exact ⟨rfl, hP_wf.out.trans (by rw [hRl.out]), hr_wf.out, hO_wf.out⟩
end Go.Proofs.YtahnicbokdbjdaaDoor
