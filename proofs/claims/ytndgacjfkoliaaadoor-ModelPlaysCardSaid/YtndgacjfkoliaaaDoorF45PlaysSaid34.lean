/-
  The statement 'ModelPlays' ('bailee/baileelaw34.ModelPlays'), out of its walk: for whatever arguments the call returns true and leaves what was there as it was.
-/
import Derived.Test.YtndgacjfkoliaaaDoorF44PlaysSaid34
import Derived.Test.YtndgacjfkoliaaaDoorCards
import Derived.Test.YtndgacjfkoliaaaDoorTie
import Derived.LaidMore
import Derived.Lay
namespace Go.Proofs.YtndgacjfkoliaaaDoor.modelPlays
open Go.ChangeShapes Go.WideShapes Go.ChangeAt Go.RowKit
set_option linter.unusedSimpArgs false
set_option linter.unusedVariables false
open Go.ChangeMaps (open_string shut_string)

theorem own : ownKnob Tryd.prog.godebug = none := by kernel_rfl
theorem laidOut : laidOutB Tryd.prog = true := by kernel_rfl

section
variable {P : Program} {W : World}
theorem laidVars_dropA (R : List (String × DataW Unit)) : ∀ (L : List (String × DataW Unit)) (ps : List MemPlace), DataW.LaidVars P W (L ++ R) ps → ∃ q r, ps = q ++ r ∧ DataW.LaidVars P W R r := by
  intro L
  induction L with
  | nil => intro ps h; exact ⟨[], ps, rfl, h⟩
  | cons x L ih =>
    intro ps h
    obtain ⟨g0, t0, cs0, f0, p0, q0, hg0, ht0, hv0, hd0, hr0, e0⟩ := h
    obtain ⟨q, r, e1, hr⟩ := ih q0 hr0
    exact ⟨MemPlace.row ⟨g0, 0, none⟩ cs0.size ++ p0 ++ q, r, by rw [e0, e1]; simp only [List.append_assoc], hr⟩
end
def errSents : List (String × List UInt8) := ((Rows.modelPlaysRow.laid.drop 1).take 20).filterMap fun x => match x.2 with | .iface _ (.ptr (.agg [.lit (.string s)])) => some (x.1, s) | _ => none
theorem sents_laid : Rows.modelPlaysRow.laid = Rows.modelPlaysRow.laid.take 1 ++ (errSents.map (fun x => (x.1, sentD "*errors.errorString" x.2)) ++ Rows.modelPlaysRow.laid.drop 21) := by kernel_rfl
theorem star : "*errors.errorString" = "*" ++ "errors.errorString" := by decide
theorem rowE (u : TypeId) (h : Tryd.prog.typeName? 3 u = some "*errors.errorString") : u = 137 :=
  typeName_ptr_named (nm := "errors.errorString") (by rw [← star]; kernel_rfl) (by kernel_rfl) (by decide) u (by rw [← star]; exact h)
/-- What the row's list gives the walk. -/
theorem errs_of {W : World} (h : laidMetH Tryd.prog Rows.modelPlaysRow.laid W) : ∃ a, Errs 137 errGs W a := by
  rw [MakeChecks.laidMetH_plain _ _ _ (by kernel_rfl)] at h
  obtain ⟨ps, hv, hnd, hrows⟩ := h
  rw [sents_laid] at hv
  obtain ⟨qa, qb, eps, hv2⟩ := laidVars_dropA _ _ _ hv
  subst eps
  obtain ⟨al, h1, h2, h3, h4⟩ := laid_sents (P := Tryd.prog) (nm := "*errors.errorString") Tryd.underlying50 rowE Tryd.underlying137 Tryd.underlying163 rfl rfl Tryd.underlying9 (by kernel_rfl) (by kernel_rfl)
    _ errSents errGs qb (by kernel_rfl) (by kernel_rfl) hv2 (List.nodup_append.1 hnd).2.1 (fun b off hb => hrows b off (List.mem_append_right _ hb))
  exact ⟨_, Errs.of_list h1 h2 (fun a ha => (h3 a ha).2.2) h4⟩

set_option maxRecDepth 100000 in
theorem lifted (os : Os) (started : os.Started) (H : Type) (enc : TypeId × Value → H) :
    ReturnsInHanded {} Tryd.checked os 3 .any (fun w args => (Rows.modelPlaysSpec.pre enc Tryd.prog Tryd.f3 [] false w args ∧ laidMetH Tryd.prog Rows.modelPlaysRow.laid w) ∧ sizedMet enc Tryd.prog Tryd.f3 (OpenSpec.ofChange Rows.modelPlaysSpec) false w args) (Rows.modelPlaysSpec.post enc Tryd.prog Tryd.f3 false true false false) := by
  refine returnsInHanded_of_change_and (C := Tryd.checked) (X := fun w _ => laidMetH Tryd.prog Rows.modelPlaysRow.laid w) (fun _ _ _ hh h => h.of_heap hh) own started (by kernel_rfl) Tryd.func3
    (ChangeSpec.witness_shaped (enc := enc) (C := Tryd.checked) (os := os) (X := fun w _ => laidMetH Tryd.prog Rows.modelPlaysRow.laid w) false (World.laidAll Tryd.prog os Rows.modelPlaysRow.laid) #[.slice none 0 0, .int .i64 0] 8 (World.laidAll_os _ _ _) (World.shaped_of_ZipB (by kernel_rfl) (by kernel_rfl)) (by kernel_rfl) (by kernel_rfl) (by kernel_rfl) (by rw [MakeChecks.laidMetH_plain _ _ _ (by kernel_rfl)]; exact laidMet_laidAll _ (by kernel_rfl) (by kernel_rfl))) ?_
  intro W base args ds gs before hval0 hW _ _ hL _
  have hval : ∀ (j : Nat) t v, Tryd.f3.params[j]? = some t → args[j]? = some v → Value.okWide Tryd.prog W .any base t v := hval0
  have hW' := hW
  obtain ⟨p, q, hA0, hV, rfl, hfz, hnd⟩ := hW
  have hA : DataW.TrodAll enc Tryd.prog W 0 (fun _ => true) true Tryd.f3.params.toList args.toList ds p := hA0
  rw [Tryd.params3] at hA hval
  obtain ⟨v0, vs0, d0, ds0, p0, q0, hargs, rfl, rfl, h0, r0⟩ := trodAll_cons hA
  obtain ⟨v1, vs1, d1, ds1, p1, q1, rfl, rfl, rfl, h1, r1⟩ := trodAll_cons r0
  obtain ⟨rfl, rfl, rfl⟩ := trodAll_nil r1
  obtain rfl : args = #[v0, v1] := by cases args; simp_all
  obtain ⟨rfl, rfl⟩ := trodVars_none hV
  have k0 := h0
  have lt0 : ∀ x ∈ p0, x.block < W.heap.size := by obtain ⟨m, hm⟩ := k0; exact DataW.trod_lt m _ _ _ hm
  obtain ⟨a0, cap0, z0, rfl, w0, w0ok⟩ := open_acs (hval 0 22 v0 rfl rfl) h0
  have k1 := h1
  have lt1 : ∀ x ∈ p1, x.block < W.heap.size := by obtain ⟨m, hm⟩ := k1; exact DataW.trod_lt m _ _ _ hm
  obtain ⟨a1, rfl, rfl, rfl, w1⟩ := open_int Tryd.underlying3 (hval 1 3 v1 rfl rfl) h1
  clear hA0 hval0
  obtain ⟨ea, hE⟩ := errs_of hL
  refine (plays34_law a0 cap0 z0 a1 W w0 w0ok ea hE).mono fun e W' ⟨he, bel⟩ => ?_
  subst he
  exact ⟨_, rfl, _, _, _, [], _, [], hW', trodAll_mk1 (shut_bool Tryd.underlying4 _), (trodAll_cons_mk (Below.trod laidOut (by kernel_rfl) (of_decide_eq_true (by kernel_rfl)) k0 bel lt0) (trodAll_cons_mk (Below.trod laidOut (by kernel_rfl) (of_decide_eq_true (by kernel_rfl)) k1 bel lt1) trodAll_mk0)), rfl, bel.frame _, fun h => by cases h⟩

theorem said : Rows.ModelPlaysSaid :=
  OpenClaim.holds_of_wide 3 Tryd.f3 rfl rfl rfl rfl rfl rfl rfl ⟨rfl, rfl, rfl, rfl, rfl⟩ rfl rfl rfl rfl rfl (by kernel_rfl) Tryd.func3 (by kernel_rfl)
    (of_decide_eq_true (by kernel_rfl)) (by unfold Func.isWrapper; first | (rw [if_pos (by decide +kernel)]; kernel_rfl) | (rw [if_neg (by decide +kernel)]; exact ⟨rfl, rfl⟩))
    (fun os started H enc _ => lifted os started H enc)

theorem plain (f : FuncId) (fn : Func) (hf : Tryd.pinned.checked.prog.funcNamed "bailee/baileelaw34.ModelPlays" = some f) (hfn : Tryd.pinned.checked.prog.funcs[f]? = some fn) :
    true = Tryd.pinned.checked.prog.looks [] ∧ ∀ (j : Nat) t, fn.params[j]? = some t → Tryd.pinned.checked.prog.wantsStandIn t = false := by
  obtain rfl : f = 3 := Option.some.inj ((show Tryd.prog.funcNamed "bailee/baileelaw34.ModelPlays" = some 3 by kernel_rfl).symm.trans hf) |>.symm
  obtain rfl : fn = Tryd.f3 := (Option.some.inj (Tryd.func3.symm.trans hfn)).symm
  refine ⟨by kernel_rfl, fun j t ht => ?_⟩
  rw [Tryd.params3] at ht
  have hm := Array.mem_of_getElem? ht
  simp only [List.mem_toArray, List.mem_cons, List.not_mem_nil, or_false] at hm
  rcases hm with rfl | rfl
  · exact (show Tryd.prog.wantsStandIn 22 = false by kernel_rfl)
  · exact (show Tryd.prog.wantsStandIn 3 = false by kernel_rfl)

/-- THE CARD. -/
theorem proved : Rows.ModelPlaysCardSaid :=
  Claim7.holds_tied_plain_at .later [] _ _ _ _ said (fun _ h => by cases h) (by kernel_rfl) (fun _ h => by cases h) modelPlays_row_tie rfl ⟨rfl, rfl⟩ (by kernel_rfl) rfl plain (by kernel_rfl)
#print axioms proved
end Go.Proofs.YtndgacjfkoliaaaDoor.modelPlays
