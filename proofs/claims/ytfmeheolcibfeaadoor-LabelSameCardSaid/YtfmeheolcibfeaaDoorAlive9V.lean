/- alive of chapter 09 where the reference's tables are not at hand. -/
import Derived.Test.YtfmeheolcibfeaaDoorAll9B
import Derived.Test.YtfmeheolcibfeaaDoorConv
namespace Go.Proofs.YtfmeheolcibfeaaDoor
open Go.RowKit

/-- What label's own code finds. -/
structure LabV (z : Nat → Addr) (w : World) : Prop where
  K : ShaK w
  F : ShaF w
  er : Errs 129 errGs w z
theorem LabV.below {z : Nat → Addr} {w w' : World} (h : LabV z w) (hb : Below w.heap.size w w') : LabV z w' := ⟨h.K.below hb, h.F.below hb, h.er.below hb⟩
theorem LabV.lk {z : Nat → Addr} {w : World} (h : LabV z w) : LabK (z 0) (z 5) (z 8) w := by
  obtain ⟨g0, g1, g2, g3, g4, g5, g6, g7, g8, g9, g10, g11, g12, g13, g14, g15, g16, g17, g18, g19⟩ := num_cells h.er
  exact ⟨h.K, h.F, g0, g5, g8⟩
theorem kE_numV (z : Nat → Addr) (b : Int) (hb : b = 0 ∨ b = 1 ∨ b = 6 ∨ b = 9) (w : World) (hW : LabV z w) : Calls Tryd.prog 9 #[kE (z 0) (z 5) (z 8) b] w fun e w' => e = .returned (.int .i64 b) ∧ Below w.heap.size w w' := by
  rcases hb with rfl | rfl | rfl | rfl
  · refine (num_nil w).mono ?_
    rintro e w' ⟨rfl, rfl⟩
    exact ⟨rfl, Below.refl _ _⟩
  · exact num_err 0 (by omega) z w hW.er
  · exact num_err 5 (by omega) z w hW.er
  · exact num_err 8 (by omega) z w hW.er

set_option maxRecDepth 10000 in
set_option maxHeartbeats 1000000 in
theorem alive9v_any (z : Nat → Addr) (w : World) (hW : LabV z w) : Calls Tryd.prog 5 #[] w fun e w' => e = .returned (.bool true) ∧ Below w.heap.size w w' := by
  have g1 := heap_alloc_new w (.cells (cB (List.replicate 15 0)).toArray 5)
  have hb0 := (Below.refl w.heap.size w).alloc (Nat.le_refl _) (.cells (cB (List.replicate 15 0)).toArray 5)
  have hk1 := Lib.hid (lKey_any (some ⟨w.heap.size, 0, none⟩) 15 (List.replicate 15 0) ⟨#[97]⟩ 0 (z 0) (z 5) (z 8) _ (argB_block g1 (by simp) (by omega)) (by simp) (by decide) (hW.lk.below hb0))
  have e1 : kBad (List.replicate 15 0) [97] 0 = 9 := by decide
  have e2 : kX (List.replicate 15 0) [97] 0 = [] := by unfold kX; rw [e1]; rfl
  rw [show (⟨#[97]⟩ : ByteArray).data.toList = [97] from rfl, e1, e2, show (List.replicate 15 (0 : UInt8)).length = 15 from rfl, show ([] : List UInt8).length = 0 from rfl] at hk1
  have f1 : kBad (List.replicate 16 0) [97] 0 = 0 := by decide
  have f2 : (kX (List.replicate 16 0) [97] 0).length = 32 := by unfold kX; rw [f1, if_pos rfl, hmac_length]
  have hk2 := fun (W : World) A B => lKey_any (some ⟨W.heap.size, 0, none⟩) 16 (List.replicate 16 0) ⟨#[97]⟩ 0 (z 0) (z 5) (z 8) (W.alloc (.cells (cB (List.replicate 16 0)).toArray 5)) A (by simp) (by decide) B
  rw [show (⟨#[97]⟩ : ByteArray).data.toList = [97] from rfl, f1, show (List.replicate 16 (0 : UInt8)).length = 16 from rfl, f2, show kE (z 0) (z 5) (z 8) 0 = Value.nilIface from rfl] at hk2
  have ha16 := Lib.hid (fun W : World => argB_block (c := 16) (heap_alloc_new W (.cells (cB (List.replicate 16 0)).toArray 5)) (by simp) (by omega))
  have hEn := Lib.hid (fun W A => kE_numV z 9 (by decide) W A)
  have hmk15 : ∀ W, (Instr.makeSlice 22 (.int .i64 15) (.int .i64 15)).run Tryd.prog W = .ok (.slice (some ⟨W.heap.size, 0, none⟩) 15 15) (W.alloc (.cells (cB (List.replicate 15 0)).toArray 5)) := fun W => by kernel_rfl
  have hmk16 : ∀ W, (Instr.makeSlice 22 (.int .i64 16) (.int .i64 16)).run Tryd.prog W = .ok (.slice (some ⟨W.heap.size, 0, none⟩) 16 16) (W.alloc (.cells (cB (List.replicate 16 0)).toArray 5)) := fun W => by kernel_rfl
  replace hW := Lib.hid hW
  replace hb0 := Lib.hid hb0
  replace hk2 := Lib.hid hk2
  replace e1 := Lib.hid e1; replace e2 := Lib.hid e2; replace f1 := Lib.hid f1; replace f2 := Lib.hid f2; replace g1 := Lib.hid g1
  obtain ⟨C15, h15⟩ : ∃ C, C = (cB (List.replicate 15 0)).toArray := ⟨_, rfl⟩
  obtain ⟨C16, h16⟩ : ∃ C, C = (cB (List.replicate 16 0)).toArray := ⟨_, rfl⟩
  rw [← h15] at hmk15 hk1 hb0
  rw [← h16] at hmk16 hk2 ha16
  replace h15 := Lib.hid h15
  replace h16 := Lib.hid h16
  go_enter Tryd.func5, Tryd.ntmps5
  go_wp2_with fail
  with_reducible refine hk1.out.mono ?_
  rintro e w1 ⟨a1, c1, rfl, h1, hb1⟩
  have hbw := hb0.out.trans (hb1.mono hb0.out.size)
  have hW1 := hW.out.below hbw
  have hb2 := (Below.refl w1.heap.size w1).alloc (Nat.le_refl _) (.cells C16 5)
  have hkk := Lib.hid (hk2.out w1 (ha16.out w1) (hW1.lk.below hb2))
  have hb02 := Lib.hid (hbw.trans (hb2.mono hbw.size))
  have hW2 := Lib.hid (hW1.below hb2)
  clear h1 hb1 hbw hW1 hb2 hk1
  go_wp2_with fail
  with_reducible refine hkk.out.mono ?_
  rintro e w3 ⟨a3, c3, rfl, h3, hb3⟩
  have hb4 := Lib.hid (hb02.out.trans (hb3.mono hb02.out.size))
  have hW3 := Lib.hid (hW2.out.below hb3)
  clear h3 hb3 hkk
  go_wp2_with fail
  with_reducible refine (hEn.out _ hW3.out).mono ?_
  rintro e w5 ⟨rfl, hb5⟩
  have hb6 := Lib.hid (hb4.out.trans (hb5.mono hb4.out.size))
  clear hb5
  go_wp2_with fail
  go_ret
  exact ⟨rfl, hb6.out⟩


theorem five_allS {W : World} {vs : List Value} {f : Nat → List UInt8} (h : Five W vs f) : (vs.toArray.all (·.oneCell')) = true := by
  rw [List.all_toArray, List.all_eq_true]
  intro v hv
  obtain ⟨i, hi, rfl⟩ := List.getElem_of_mem hv
  obtain ⟨a, c, e, _⟩ := h.2 i (by rw [← h.1]; exact hi)
  rw [List.getElem?_eq_getElem hi] at e
  rw [Option.some.inj e]
  rfl
theorem five_factsS {W : World} {vs : List Value} {f : Nat → List UInt8} (h : Five W vs f) : (Tryd.prog.info? 36).map (·.size) = some vs.toArray.size ∧ (#[.slice none 0 0, .slice none 0 0, .slice none 0 0, .slice none 0 0, .slice none 0 0] : Array Value).size = vs.toArray.size ∧ (vs.toArray.all (·.oneCell')) = true := by
  have hs : vs.toArray.size = 5 := by rw [List.size_toArray]; exact h.1
  refine ⟨?_, by rw [hs]; rfl, five_allS h⟩
  rw [hs]; kernel_rfl
theorem five_facts9S {W : World} {vs : List Value} {f : Nat → List UInt8} (h : Five W vs f) : (Tryd.prog.info? 39).map (·.size) = some vs.toArray.size ∧ (#[.slice none 0 0, .slice none 0 0, .slice none 0 0, .slice none 0 0, .slice none 0 0] : Array Value).size = vs.toArray.size ∧ (vs.toArray.all (·.oneCell')) = true := by
  have hs : vs.toArray.size = 5 := by rw [List.size_toArray]; exact h.1
  refine ⟨?_, by rw [hs]; rfl, five_allS h⟩
  rw [hs]; kernel_rfl
theorem five_indexS {W : World} {vs : List Value} {f : Nat → List UInt8} (h : Five W vs f) : ∀ (i : Nat), i < 5 → ∀ v, vs[i]? = some v → ∀ w, (Instr.index 39 (.agg vs.toArray) (.int .i64 (i : Int))).run Tryd.prog w = .ok v w := by
  obtain ⟨a0, c0, a1, c1, a2, c2, a3, c3, a4, c4, rfl, _⟩ := h.lits
  generalize (f 0).length = l0
  generalize (f 1).length = l1
  generalize (f 2).length = l2
  generalize (f 3).length = l3
  generalize (f 4).length = l4
  intro i hi v hv w
  match i, hi with
  | 0, _ => have e := Option.some.inj hv; subst e; show _ = _; kernel_rfl
  | 1, _ => have e := Option.some.inj hv; subst e; show _ = _; kernel_rfl
  | 2, _ => have e := Option.some.inj hv; subst e; show _ = _; kernel_rfl
  | 3, _ => have e := Option.some.inj hv; subst e; show _ = _; kernel_rfl
  | 4, _ => have e := Option.some.inj hv; subst e; show _ = _; kernel_rfl

theorem grown_eqS {a b : World} (h : a = b) : Grown a b := h ▸ Grown.refl a
theorem keepCS {a b : World} {C : World → Prop} (k : ∀ W, Grown a W → C W) (h : Grown a b) : ∀ W, Grown b W → C W := fun W hW => k W (Grown.trans h hW)


set_option maxRecDepth 10000 in
set_option maxHeartbeats 1000000 in
theorem row_anyS (vs : List Value) (f : Nat → List UInt8) (w : World) (h : Five w vs f) :
    Calls Tryd.prog 18 #[.agg vs.toArray] w fun e w' => e = .returned (.agg vs.toArray) ∧ Below w.heap.size w w' := by
  obtain ⟨a0, c0, a1, c1, a2, c2, a3, c3, a4, c4, rfl, _⟩ := h.lits
  generalize (f 0).length = l0
  generalize (f 1).length = l1
  generalize (f 2).length = l2
  generalize (f 3).length = l3
  generalize (f 4).length = l4
  clear h
  have hbb := Lib.hid (show Below w.heap.size w ((w.alloc (.cells #[.slice a0 l0 c0, .slice a1 l1 c1, .slice a2 l2 c2, .slice a3 l3 c3, .slice a4 l4 c4] 36)).alloc (.cells #[.slice a0 l0 c0, .slice a1 l1 c1, .slice a2 l2 c2, .slice a3 l3 c3, .slice a4 l4 c4] 39)) from ((Below.refl _ w).alloc (Nat.le_refl _) _).alloc (by simp) _)
  go_enter Tryd.func18, Tryd.ntmps18
  go_wp2_with fail
  exact ret_cell_new rfl (by simp) Tryd.underlying39 (by kernel_rfl) ⟨rfl, hbb.out⟩


end Go.Proofs.YtfmeheolcibfeaaDoor
