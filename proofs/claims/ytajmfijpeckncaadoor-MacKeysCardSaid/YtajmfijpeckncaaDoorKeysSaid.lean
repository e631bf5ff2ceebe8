/-
  The statement 'MacKeys' ('bailee/baileelaw08.MacKeys'), out of its walk: for whatever arguments the call returns true and leaves what was there as it was.
-/
import Derived.Test.YtajmfijpeckncaaDoorKeysLaw
import Derived.Test.YtajmfijpeckncaaDoorCards
import Derived.Test.YtajmfijpeckncaaDoorTie
import Derived.LaidMore
import Derived.Test.YtajmfijpeckncaaDoorLaidTabs
namespace Go.Proofs.YtajmfijpeckncaaDoor.macKeys
open Go.ChangeShapes Go.WideShapes Go.ChangeAt Go.RowKit
open Go.ChangeMaps (open_string shut_string)

theorem own : ownKnob Tryd.prog.godebug = none := by kernel_rfl
theorem laidOut : laidOutB Tryd.prog = true := by kernel_rfl

theorem tabs_laid : Rows.macKeysRow.laid = Rows.macKeysRow.laid.take 0 ++ [("bailee/baileeref07.begins", Go.Lib.tabData .u32 shaFirst), ("bailee/baileeref07.added", Go.Lib.tabData .u32 shaAdded), ("bailee/sha.first", Go.Lib.tabData .u32 shaFirst), ("bailee/sha.added", Go.Lib.tabData .u32 shaAdded)] := by kernel_rfl
/-- What the row's list gives the walk at the tables. -/
theorem tabs_of {W : World} (h : laidMetH Tryd.prog Rows.macKeysRow.laid W) : RefF W ∧ RefK W ∧ ShaF W ∧ ShaK W := by
  rw [MakeChecks.laidMetH_plain _ _ _ (by kernel_rfl)] at h
  obtain ⟨ps, hv, hnd, hrows⟩ := h
  rw [tabs_laid] at hv
  obtain ⟨q0, hv0⟩ := laidVars_drop _ _ _ hv
  obtain ⟨t0, f0, r0⟩ := tab_row (P := Tryd.prog) (t := 54) (e := 53) (n := 8) (g := 0) (by kernel_rfl) (by kernel_rfl) Tryd.underlying54 Tryd.underlying53 (by kernel_rfl) (by kernel_rfl) hv0
  obtain ⟨q1, hv1⟩ := laidVars_drop _ [_] _ hv0
  obtain ⟨t1, f1, r1⟩ := tab_row (P := Tryd.prog) (t := 55) (e := 53) (n := 64) (g := 1) (by kernel_rfl) (by kernel_rfl) Tryd.underlying55 Tryd.underlying53 (by kernel_rfl) (by kernel_rfl) hv1
  obtain ⟨q2, hv2⟩ := laidVars_drop _ [_] _ hv1
  obtain ⟨t2, f2, r2⟩ := tab_row (P := Tryd.prog) (t := 59) (e := 53) (n := 8) (g := 2) (by kernel_rfl) (by kernel_rfl) Tryd.underlying59 Tryd.underlying53 (by kernel_rfl) (by kernel_rfl) hv2
  obtain ⟨q3, hv3⟩ := laidVars_drop _ [_] _ hv2
  obtain ⟨t3, f3, r3⟩ := tab_row (P := Tryd.prog) (t := 55) (e := 53) (n := 64) (g := 3) (by kernel_rfl) (by kernel_rfl) Tryd.underlying55 Tryd.underlying53 (by kernel_rfl) (by kernel_rfl) hv3
  exact ⟨⟨_, _, r0⟩, (fun t ht => shaAdded_at r1 t ht), (fun i hi => shaFirst_at r2 i hi), (fun t ht => shaAdded_at r3 t ht)⟩
theorem door_met (os : Os) (args : Array Value) : laidMetH Tryd.prog Rows.macKeysRow.laid ((World.doorLaid Tryd.prog 29 os).forCall (fun _ _ => 0) ⟨#[], args, []⟩).memory :=
  laidMetH_of_parts3 (fuel := 8) (laidMet_of_run' 8 (by kernel_rfl) (by kernel_rfl)) (by kernel_rfl) (by kernel_rfl)

set_option maxRecDepth 100000 in
theorem lifted (os : Os) (started : os.Started) (H : Type) (enc : TypeId × Value → H) :
    ReturnsInHanded {} Tryd.checked os 3 .any (fun w args => (Rows.macKeysSpec.pre enc Tryd.prog Tryd.f3 [] false w args ∧ laidMetH Tryd.prog Rows.macKeysRow.laid w) ∧ sizedMet enc Tryd.prog Tryd.f3 (OpenSpec.ofChange Rows.macKeysSpec) false w args) (Rows.macKeysSpec.post enc Tryd.prog Tryd.f3 false true false false) := by
  refine returnsInHanded_of_change_and (C := Tryd.checked) (X := fun w _ => laidMetH Tryd.prog Rows.macKeysRow.laid w) (fun _ _ _ hh h => h.of_heap hh) own started (by kernel_rfl) Tryd.func3
    (ChangeSpec.witness_shaped (enc := enc) (C := Tryd.checked) (os := os) (X := fun w _ => laidMetH Tryd.prog Rows.macKeysRow.laid w) false (World.doorLaid Tryd.prog 29 os) #[.slice none 0 0, .slice none 0 0] 8 rfl (World.shaped_of_RefB (by kernel_rfl) (by kernel_rfl)) (by kernel_rfl) (by kernel_rfl) (by kernel_rfl) (door_met os _)) ?_
  intro W base args ds gs before hval0 hW _ _ hL _
  have hval : ∀ (j : Nat) t v, Tryd.f3.params[j]? = some t → args[j]? = some v → Value.okWide Tryd.prog W .any base t v := hval0
  have hW' := hW
  obtain ⟨p, q, hA0, hV, rfl, hfz, hnd⟩ := hW
  have hA : DataW.TrodAll enc Tryd.prog W 0 (fun _ => true) true Tryd.f3.params.toList args.toList ds p := hA0
  rw [Tryd.params3] at hA hval
  obtain ⟨v0, vs0, d0, ds0, p0, q0, hargs, rfl, rfl, h0, r0⟩ := trodAll_cons hA
  obtain ⟨v1, vs1, d1, ds1, p1, q1, rfl, rfl, rfl, h1, r1⟩ := trodAll_cons r0
  obtain ⟨rfl, rfl, rfl⟩ := trodAll_nil r1
  obtain rfl : args = #[v0, v1] := by cases args; simp_all
  obtain ⟨rfl, rfl⟩ := trodVars_none hV
  have k0 := h0
  have lt0 : ∀ x ∈ p0, x.block < W.heap.size := by obtain ⟨m, hm⟩ := k0; exact DataW.trod_lt m _ _ _ hm
  obtain ⟨a0, cap0, z0, rfl, w0⟩ := open_argB Tryd.underlying22 Tryd.underlying5 (by kernel_rfl) (okWide_slice Tryd.underlying22 (hval 0 22 v0 rfl rfl)) h0
  have k1 := h1
  have lt1 : ∀ x ∈ p1, x.block < W.heap.size := by obtain ⟨m, hm⟩ := k1; exact DataW.trod_lt m _ _ _ hm
  obtain ⟨a1, cap1, z1, rfl, w1⟩ := open_argBB Tryd.underlying23 Tryd.underlying22 Tryd.underlying5 (by kernel_rfl) (by kernel_rfl) (okWide_slice Tryd.underlying23 (hval 1 23 v1 rfl rfl)) h1
  clear hA0 hval0
  obtain ⟨hT_begins, hT_radded, hT_first, hT_added⟩ := tabs_of hL
  refine (keys_walk a0 cap0 z0 a1 cap1 z1 W w0 w1 hT_added hT_first hT_radded hT_begins).mono fun e W' ⟨he, bel⟩ => ?_
  subst he
  exact ⟨_, rfl, _, _, _, [], _, [], hW', trodAll_mk1 (shut_bool Tryd.underlying4 _), (trodAll_cons_mk (Below.trod laidOut (by kernel_rfl) (of_decide_eq_true (by kernel_rfl)) k0 bel lt0) (trodAll_cons_mk (Below.trod laidOut (by kernel_rfl) (of_decide_eq_true (by kernel_rfl)) k1 bel lt1) trodAll_mk0)), rfl, bel.frame _, fun h => by cases h⟩

theorem said : Rows.MacKeysSaid :=
  OpenClaim.holds_of_wide 3 Tryd.f3 rfl rfl rfl rfl rfl rfl rfl ⟨rfl, rfl, rfl, rfl, rfl⟩ rfl rfl rfl rfl rfl (by kernel_rfl) Tryd.func3 (by kernel_rfl)
    (of_decide_eq_true (by kernel_rfl)) (by unfold Func.isWrapper; first | (rw [if_pos (by decide +kernel)]; kernel_rfl) | (rw [if_neg (by decide +kernel)]; exact ⟨rfl, rfl⟩))
    (fun os started H enc _ => lifted os started H enc)

theorem plain (f : FuncId) (fn : Func) (hf : Tryd.pinned.checked.prog.funcNamed "bailee/baileelaw08.MacKeys" = some f) (hfn : Tryd.pinned.checked.prog.funcs[f]? = some fn) :
    false = Tryd.pinned.checked.prog.looks [] ∧ ∀ (j : Nat) t, fn.params[j]? = some t → Tryd.pinned.checked.prog.wantsStandIn t = false := by
  obtain rfl : f = 3 := Option.some.inj ((show Tryd.prog.funcNamed "bailee/baileelaw08.MacKeys" = some 3 by kernel_rfl).symm.trans hf) |>.symm
  obtain rfl : fn = Tryd.f3 := (Option.some.inj (Tryd.func3.symm.trans hfn)).symm
  refine ⟨by kernel_rfl, fun j t ht => ?_⟩
  rw [Tryd.params3] at ht
  have hm := Array.mem_of_getElem? ht
  simp only [List.mem_toArray, List.mem_cons, List.not_mem_nil, or_false] at hm
  rcases hm with rfl | rfl
  · exact (show Tryd.prog.wantsStandIn 22 = false by kernel_rfl)
  · exact (show Tryd.prog.wantsStandIn 23 = false by kernel_rfl)

/-- THE CARD. -/
theorem proved : Rows.MacKeysCardSaid :=
  Claim7.holds_tied_plain_at .later [] _ _ _ _ said (fun _ h => by cases h) (by kernel_rfl) (fun _ h => by cases h) macKeys_row_tie rfl ⟨rfl, rfl⟩ (by kernel_rfl) rfl plain (by kernel_rfl)
#print axioms proved
end Go.Proofs.YtajmfijpeckncaaDoor.macKeys
