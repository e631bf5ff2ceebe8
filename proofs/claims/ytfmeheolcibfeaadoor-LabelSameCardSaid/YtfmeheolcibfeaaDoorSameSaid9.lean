/-
  The statement 'LabelSame' ('bailee/baileelaw09.LabelSame'), out of its walk: for whatever arguments the call returns true and leaves what was there as it was.
-/
import Derived.Test.YtfmeheolcibfeaaDoorSameLaw9
import Derived.Test.YtfmeheolcibfeaaDoorCards
import Derived.Test.YtfmeheolcibfeaaDoorTie
import Derived.LaidMore
import Derived.Lay
import Derived.Test.YtfmeheolcibfeaaDoorLaidTabs
namespace Go.Proofs.YtfmeheolcibfeaaDoor.labelSame
open Go.ChangeShapes Go.WideShapes Go.ChangeAt Go.RowKit
open Go.ChangeMaps (open_string shut_string)

theorem own : ownKnob Tryd.prog.godebug = none := by kernel_rfl
theorem laidOut : laidOutB Tryd.prog = true := by kernel_rfl

def errSents : List (String × List UInt8) := ((Rows.labelSameRow.laid.drop 1).take 20).filterMap fun x => match x.2 with | .iface _ (.ptr (.agg [.lit (.string s)])) => some (x.1, s) | _ => none
theorem sents_laid : Rows.labelSameRow.laid = Rows.labelSameRow.laid.take 1 ++ (errSents.map (fun x => (x.1, sentD "*errors.errorString" x.2)) ++ Rows.labelSameRow.laid.drop 21) := by kernel_rfl
theorem star : "*errors.errorString" = "*" ++ "errors.errorString" := by decide
theorem rowE (u : TypeId) (h : Tryd.prog.typeName? 3 u = some "*errors.errorString") : u = 129 :=
  typeName_ptr_named (nm := "errors.errorString") (by rw [← star]; kernel_rfl) (by kernel_rfl) (by decide) u (by rw [← star]; exact h)
/-- What the row's list gives the walk. -/
theorem errs_of {W : World} (h : laidMetH Tryd.prog Rows.labelSameRow.laid W) : ∃ a, Errs 129 errGs W a := by
  rw [MakeChecks.laidMetH_plain _ _ _ (by kernel_rfl)] at h
  obtain ⟨ps, hv, hnd, hrows⟩ := h
  rw [sents_laid] at hv
  obtain ⟨qa, qb, eps, hv2⟩ := laidVars_dropA _ _ _ hv
  subst eps
  obtain ⟨al, h1, h2, h3, h4⟩ := laid_sents (P := Tryd.prog) (nm := "*errors.errorString") Tryd.underlying26 rowE Tryd.underlying129 Tryd.underlying154 rfl rfl Tryd.underlying9 (by kernel_rfl) (by kernel_rfl)
    _ errSents errGs qb (by kernel_rfl) (by kernel_rfl) hv2 (List.nodup_append.1 hnd).2.1 (fun b off hb => hrows b off (List.mem_append_right _ hb))
  exact ⟨_, Errs.of_list h1 h2 (fun a ha => (h3 a ha).2.2) h4⟩

theorem tab_laid0 : Rows.labelSameRow.laid = Rows.labelSameRow.laid.take 21 ++ (("bailee/sha.first", Go.Lib.tabData .u32 shaFirst) :: Rows.labelSameRow.laid.drop 22) := by kernel_rfl
theorem tab_laid1 : Rows.labelSameRow.laid = Rows.labelSameRow.laid.take 22 ++ (("bailee/sha.added", Go.Lib.tabData .u32 shaAdded) :: Rows.labelSameRow.laid.drop 23) := by kernel_rfl
/-- What the row's list gives the walk at the tables. -/
theorem tabs_of {W : World} (h : laidMetH Tryd.prog Rows.labelSameRow.laid W) : ShaF W ∧ ShaK W := by
  rw [MakeChecks.laidMetH_plain _ _ _ (by kernel_rfl)] at h
  obtain ⟨ps, hv, hnd, hrows⟩ := h
  have hw0 := hv
  rw [tab_laid0] at hw0
  obtain ⟨q0, hv0⟩ := laidVars_drop _ _ _ hw0
  obtain ⟨t0, f0, r0⟩ := tab_row (P := Tryd.prog) (t := 110) (e := 85) (n := 8) (g := 22) (by kernel_rfl) (by kernel_rfl) Tryd.underlying110 Tryd.underlying85 (by kernel_rfl) (by kernel_rfl) hv0
  have hw1 := hv
  rw [tab_laid1] at hw1
  obtain ⟨q1, hv1⟩ := laidVars_drop _ _ _ hw1
  obtain ⟨t1, f1, r1⟩ := tab_row (P := Tryd.prog) (t := 87) (e := 85) (n := 64) (g := 25) (by kernel_rfl) (by kernel_rfl) Tryd.underlying87 Tryd.underlying85 (by kernel_rfl) (by kernel_rfl) hv1
  exact ⟨(fun i hi => shaFirst_at r0 i hi), (fun t ht => shaAdded_at r1 t ht)⟩
set_option maxRecDepth 100000 in
theorem lifted (os : Os) (started : os.Started) (H : Type) (enc : TypeId × Value → H) :
    ReturnsInHanded {} Tryd.checked os 4 .any (fun w args => (Rows.labelSameSpec.pre enc Tryd.prog Tryd.f4 [] false w args ∧ laidMetH Tryd.prog Rows.labelSameRow.laid w) ∧ sizedMet enc Tryd.prog Tryd.f4 (OpenSpec.ofChange Rows.labelSameSpec) false w args) (Rows.labelSameSpec.post enc Tryd.prog Tryd.f4 false true false false) := by
  refine returnsInHanded_of_change_and (C := Tryd.checked) (X := fun w _ => laidMetH Tryd.prog Rows.labelSameRow.laid w) (fun _ _ _ hh h => h.of_heap hh) own started (by kernel_rfl) Tryd.func4
    (ChangeSpec.witness_shaped (enc := enc) (C := Tryd.checked) (os := os) (X := fun w _ => laidMetH Tryd.prog Rows.labelSameRow.laid w) false (World.laidAll Tryd.prog os Rows.labelSameRow.laid) #[.slice none 0 0, .int .i64 0, .agg #[.slice none 0 0, .slice none 0 0, .slice none 0 0, .slice none 0 0, .slice none 0 0]] 8 (World.laidAll_os _ _ _) (World.shaped_of_ZipB (by kernel_rfl) (by kernel_rfl)) (by kernel_rfl) (by kernel_rfl) (by kernel_rfl) (by rw [MakeChecks.laidMetH_plain _ _ _ (by kernel_rfl)]; exact laidMet_laidAll _ (by kernel_rfl) (by kernel_rfl))) ?_
  intro W base args ds gs before hval0 hW _ _ hL _
  have hval : ∀ (j : Nat) t v, Tryd.f4.params[j]? = some t → args[j]? = some v → Value.okWide Tryd.prog W .any base t v := hval0
  have hW' := hW
  obtain ⟨p, q, hA0, hV, rfl, hfz, hnd⟩ := hW
  have hA : DataW.TrodAll enc Tryd.prog W 0 (fun _ => true) true Tryd.f4.params.toList args.toList ds p := hA0
  rw [Tryd.params4] at hA hval
  obtain ⟨v0, vs0, d0, ds0, p0, q0, hargs, rfl, rfl, h0, r0⟩ := trodAll_cons hA
  obtain ⟨v1, vs1, d1, ds1, p1, q1, rfl, rfl, rfl, h1, r1⟩ := trodAll_cons r0
  obtain ⟨v2, vs2, d2, ds2, p2, q2, rfl, rfl, rfl, h2, r2⟩ := trodAll_cons r1
  obtain ⟨rfl, rfl, rfl⟩ := trodAll_nil r2
  obtain rfl : args = #[v0, v1, v2] := by cases args; simp_all
  obtain ⟨rfl, rfl⟩ := trodVars_none hV
  have k0 := h0
  have lt0 : ∀ x ∈ p0, x.block < W.heap.size := by obtain ⟨m, hm⟩ := k0; exact DataW.trod_lt m _ _ _ hm
  obtain ⟨a0, cap0, z0, rfl, w0⟩ := open_argB Tryd.underlying22 Tryd.underlying5 (by kernel_rfl) (okWide_slice Tryd.underlying22 (hval 0 22 v0 rfl rfl)) h0
  have k1 := h1
  have lt1 : ∀ x ∈ p1, x.block < W.heap.size := by obtain ⟨m, hm⟩ := k1; exact DataW.trod_lt m _ _ _ hm
  obtain ⟨a1, rfl, rfl, rfl, w1⟩ := open_int Tryd.underlying3 (hval 1 3 v1 rfl rfl) h1
  have k2 := h2
  have lt2 : ∀ x ∈ p2, x.block < W.heap.size := by obtain ⟨m, hm⟩ := k2; exact DataW.trod_lt m _ _ _ hm
  obtain ⟨a2, z2, rfl, w2⟩ := open_rows5 Tryd.underlying36 ⟨rfl, rfl, rfl, rfl, rfl⟩ ⟨rfl, rfl, rfl, rfl, rfl⟩ Tryd.underlying22 Tryd.underlying5 (by kernel_rfl) (by kernel_rfl) (by kernel_rfl) (hval 2 36 v2 rfl rfl) h2
  clear hA0 hval0
  obtain ⟨ea, hE⟩ := errs_of hL
  obtain ⟨hT_first, hT_added⟩ := tabs_of hL
  refine (lsame_law a0 cap0 z0 a1 a2 z2 W w0 w1 w2 ea hE hT_added hT_first).mono fun e W' ⟨he, bel⟩ => ?_
  subst he
  exact ⟨_, rfl, _, _, _, [], _, [], hW', trodAll_mk1 (shut_bool Tryd.underlying4 _), (trodAll_cons_mk (Below.trod laidOut (by kernel_rfl) (of_decide_eq_true (by kernel_rfl)) k0 bel lt0) (trodAll_cons_mk (Below.trod laidOut (by kernel_rfl) (of_decide_eq_true (by kernel_rfl)) k1 bel lt1) (trodAll_cons_mk (Below.trod laidOut (by kernel_rfl) (of_decide_eq_true (by kernel_rfl)) k2 bel lt2) trodAll_mk0))), rfl, bel.frame _, fun h => by cases h⟩

theorem said : Rows.LabelSameSaid :=
  OpenClaim.holds_of_wide 4 Tryd.f4 rfl rfl rfl rfl rfl rfl rfl ⟨rfl, rfl, rfl, rfl, rfl⟩ rfl rfl rfl rfl rfl (by kernel_rfl) Tryd.func4 (by kernel_rfl)
    (of_decide_eq_true (by kernel_rfl)) (by unfold Func.isWrapper; first | (rw [if_pos (by decide +kernel)]; kernel_rfl) | (rw [if_neg (by decide +kernel)]; exact ⟨rfl, rfl⟩))
    (fun os started H enc _ => lifted os started H enc)

theorem plain (f : FuncId) (fn : Func) (hf : Tryd.pinned.checked.prog.funcNamed "bailee/baileelaw09.LabelSame" = some f) (hfn : Tryd.pinned.checked.prog.funcs[f]? = some fn) :
    true = Tryd.pinned.checked.prog.looks [] ∧ ∀ (j : Nat) t, fn.params[j]? = some t → Tryd.pinned.checked.prog.wantsStandIn t = false := by
  obtain rfl : f = 4 := Option.some.inj ((show Tryd.prog.funcNamed "bailee/baileelaw09.LabelSame" = some 4 by kernel_rfl).symm.trans hf) |>.symm
  obtain rfl : fn = Tryd.f4 := (Option.some.inj (Tryd.func4.symm.trans hfn)).symm
  refine ⟨by kernel_rfl, fun j t ht => ?_⟩
  rw [Tryd.params4] at ht
  have hm := Array.mem_of_getElem? ht
  simp only [List.mem_toArray, List.mem_cons, List.not_mem_nil, or_false] at hm
  rcases hm with rfl | rfl | rfl
  · exact (show Tryd.prog.wantsStandIn 22 = false by kernel_rfl)
  · exact (show Tryd.prog.wantsStandIn 3 = false by kernel_rfl)
  · exact (show Tryd.prog.wantsStandIn 36 = false by kernel_rfl)

/-- THE CARD. -/
theorem proved : Rows.LabelSameCardSaid :=
  Claim7.holds_tied_plain_at .later [] _ _ _ _ said (fun _ h => by cases h) (by kernel_rfl) (fun _ h => by cases h) labelSame_row_tie rfl ⟨rfl, rfl⟩ (by kernel_rfl) rfl plain (by kernel_rfl)
#print axioms proved
end Go.Proofs.YtfmeheolcibfeaaDoor.labelSame
