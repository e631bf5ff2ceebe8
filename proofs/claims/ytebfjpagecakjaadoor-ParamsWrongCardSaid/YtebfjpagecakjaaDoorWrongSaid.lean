/-
  The statement 'ParamsWrong' ('bailee/baileelaw15.ParamsWrong'), out of its walk: for whatever arguments the call returns true and leaves what was there as it was.
-/
import Derived.Test.YtebfjpagecakjaaDoorWrongLaw
import Derived.Test.YtebfjpagecakjaaDoorCards
import Derived.Test.YtebfjpagecakjaaDoorTie
import Derived.LaidMore
import Derived.Test.YtebfjpagecakjaaDoorOpen6
namespace Go.Proofs.YtebfjpagecakjaaDoor.paramsWrong
open Go.ChangeShapes Go.WideShapes Go.ChangeAt Go.RowKit
open Go.ChangeMaps (open_string shut_string)

theorem own : ownKnob Tryd.prog.godebug = none := by kernel_rfl
theorem laidOut : laidOutB Tryd.prog = true := by kernel_rfl

section
variable {P : Program} {W : World}
theorem laidVars_drop (R : List (String × DataW Unit)) : ∀ (L : List (String × DataW Unit)) (ps : List MemPlace), DataW.LaidVars P W (L ++ R) ps → ∃ q, DataW.LaidVars P W R q := by
  intro L
  induction L with
  | nil => intro ps h; exact ⟨ps, h⟩
  | cons x L ih =>
    intro ps h
    obtain ⟨g0, t0, cs0, f0, p0, q0, hg0, ht0, hv0, hd0, hr0, e0⟩ := h
    exact ih q0 hr0
theorem laidVars_dropA (R : List (String × DataW Unit)) : ∀ (L : List (String × DataW Unit)) (ps : List MemPlace), DataW.LaidVars P W (L ++ R) ps → ∃ q r, ps = q ++ r ∧ DataW.LaidVars P W R r := by
  intro L
  induction L with
  | nil => intro ps h; exact ⟨[], ps, rfl, h⟩
  | cons x L ih =>
    intro ps h
    obtain ⟨g0, t0, cs0, f0, p0, q0, hg0, ht0, hv0, hd0, hr0, e0⟩ := h
    obtain ⟨q, r, e1, hr⟩ := ih q0 hr0
    exact ⟨MemPlace.row ⟨g0, 0, none⟩ cs0.size ++ p0 ++ q, r, by rw [e0, e1]; simp only [List.append_assoc], hr⟩
end
theorem tab_head {P : Program} {W : World} {name : String} {k : IntKind} {zs : List Int} {rest : List (String × DataW Unit)} {ps : List MemPlace} {g : Nat} {t e : TypeId} {n : Nat}
    (hg : P.globalNamed name = some g) (hty : (P.globals[g]?).map (·.type) = some t) (ht : P.underlying t = some (.array n e)) (he : P.underlying e = some (.int k)) (hce : P.cellsOf e = 1) (hct : P.cellsOf t = n)
    (h : DataW.LaidVars P W ((name, Lib.tabData k zs) :: rest) ps) : Lib.TabIs P W name k zs := by
  obtain ⟨g', t', cs, fuel, p, q, hg', ht', hvar, hd, _, _⟩ := h
  obtain rfl := Option.some.inj (hg.symm.trans hg')
  obtain rfl := Option.some.inj (hty.symm.trans ht')
  unfold Lib.TabIs
  rw [hvar, ← Lib.cells_of_tab ht he hce hct hd]
def noHandle : List (String × DataW Unit) := Rows.paramsWrongRow.laid.filter (fun x => x.2.handleName?.isNone)
def errSents : List (String × List UInt8) := (noHandle.drop 3).filterMap fun x => match x.2 with | .iface _ (.ptr (.agg [.lit (.string s)])) => some (x.1, s) | _ => none
theorem sents_laid : noHandle = noHandle.take 3 ++ (errSents.map (fun x => (x.1, sentD "*errors.errorString" x.2)) ++ []) := by kernel_rfl
theorem tab_laid : noHandle = noHandle.take 2 ++ (("internal/strconv.uint64pow10", Go.Lib.tabData .u64 Lib.pow10Tab) :: noHandle.drop 3) := by kernel_rfl
theorem handle_laid : Rows.paramsWrongRow.laid.filter (fun x => x.2.handleName?.isSome) = [("errors.errorType", Rows.laid_errors_errorType)] := by kernel_rfl
theorem laid_split {W : World} (h : laidMetH Tryd.prog Rows.paramsWrongRow.laid W) : laidMet Tryd.prog noHandle W ∧ handlesMet Tryd.prog [("errors.errorType", Rows.laid_errors_errorType)] W := by
  unfold laidMetH at h
  rw [handle_laid] at h
  exact h
theorem star : "*errors.errorString" = "*" ++ "errors.errorString" := by decide
theorem rowE (u : TypeId) (h : Tryd.prog.typeName? 3 u = some "*errors.errorString") : u = 123 :=
  typeName_ptr_named (nm := "errors.errorString") (by rw [← star]; kernel_rfl) (by kernel_rfl) (by decide) u (by rw [← star]; exact h)
/-- What the row's list gives the walk. -/
theorem errs_of {W : World} (h : laidMetH Tryd.prog Rows.paramsWrongRow.laid W) : ∃ a, Errs 123 errGs W a := by
  obtain ⟨ps, hv, hnd, hrows⟩ := (laid_split h).1
  rw [sents_laid] at hv
  obtain ⟨qa, qb, eps, hv2⟩ := laidVars_dropA _ _ _ hv
  subst eps
  obtain ⟨al, h1, h2, h3, h4⟩ := laid_sents (P := Tryd.prog) (nm := "*errors.errorString") Tryd.underlying27 rowE Tryd.underlying123 Tryd.underlying143 rfl rfl Tryd.underlying9 (by kernel_rfl) (by kernel_rfl)
    _ errSents errGs qb (by kernel_rfl) (by kernel_rfl) hv2 (List.nodup_append.1 hnd).2.1 (fun b off hb => hrows b off (List.mem_append_right _ hb))
  exact ⟨_, Errs.of_list h1 h2 (fun a ha => (h3 a ha).2.2) h4⟩
theorem tab_of {W : World} (h : laidMetH Tryd.prog Rows.paramsWrongRow.laid W) : Lib.TabIs Tryd.prog W "internal/strconv.uint64pow10" .u64 Lib.pow10Tab := by
  obtain ⟨ps, hv, hnd, hrows⟩ := (laid_split h).1
  rw [tab_laid] at hv
  obtain ⟨q, hv2⟩ := laidVars_drop _ _ _ hv
  exact tab_head (g := 21) (t := 116) (e := 109) (n := 20) (by kernel_rfl) (by kernel_rfl) Tryd.underlying116 Tryd.underlying109 (by kernel_rfl) (by kernel_rfl) hv2
theorem et : Tryd.prog.globalNamed "errors.errorType" = some 20 := by kernel_rfl
theorem rt : (Tryd.prog.cutTypes.find? (·.1 == "internal/reflectlite.rtype")).map (·.2) = some 94 := by kernel_rfl
theorem oneRow : ((List.range 155).filter fun t => Tryd.prog.rowNamed t [101, 114, 114, 111, 114]) = [27] := by kernel_rfl
theorem nTypes : Tryd.prog.types.size = 155 := by kernel_rfl
theorem type_of {W : World} (h : laidMetH Tryd.prog Rows.paramsWrongRow.laid W) : TypeVar W := by
  obtain ⟨name, u, ty, e1, e2, e3, e4, e5⟩ := (laid_split h).2 _ (List.mem_singleton.2 rfl)
  have en : name = [101, 114, 114, 111, 114] := (Option.some.inj e1).symm
  subst en
  obtain rfl := Option.some.inj (rt.symm.trans e2)
  have hm : ty ∈ (List.range 155).filter fun t => Tryd.prog.rowNamed t [101, 114, 114, 111, 114] := List.mem_filter.2 ⟨List.mem_range.2 (by rw [← nTypes]; exact e3), e4⟩
  rw [oneRow] at hm
  obtain rfl := List.mem_singleton.1 hm
  have hh : typeHandle Tryd.prog 27 = .pointer (some ⟨24, 27, none⟩) := by kernel_rfl
  rw [hh] at e5
  simpa using World.var?_cell et e5 0
theorem door_met (os : Os) (args : Array Value) : laidMetH Tryd.prog Rows.paramsWrongRow.laid ((World.doorLaid Tryd.prog 411 os).forCall (fun _ _ => 0) ⟨#[], args, []⟩).memory :=
  laidMetH_of_parts3 (fuel := 8) (laidMet_of_run' 8 (by kernel_rfl) (by kernel_rfl)) (by kernel_rfl) (by kernel_rfl)

set_option maxRecDepth 100000 in
theorem lifted (os : Os) (started : os.Started) (H : Type) (enc : TypeId × Value → H) :
    ReturnsInHanded {} Tryd.checked os 6 .any (fun w args => (Rows.paramsWrongSpec.pre enc Tryd.prog Tryd.f6 [] false w args ∧ laidMetH Tryd.prog Rows.paramsWrongRow.laid w) ∧ sizedMet enc Tryd.prog Tryd.f6 (OpenSpec.ofChange Rows.paramsWrongSpec) false w args) (Rows.paramsWrongSpec.post enc Tryd.prog Tryd.f6 false true false false) := by
  refine returnsInHanded_of_change_and (C := Tryd.checked) (X := fun w _ => laidMetH Tryd.prog Rows.paramsWrongRow.laid w) (fun _ _ _ hh h => h.of_heap hh) own started (by kernel_rfl) Tryd.func6
    (ChangeSpec.witness_shaped (enc := enc) (C := Tryd.checked) (os := os) (X := fun w _ => laidMetH Tryd.prog Rows.paramsWrongRow.laid w) false (World.doorLaid Tryd.prog 411 os) #[.string ByteArray.empty, .int .i64 0, .int .i64 0] 8 rfl (World.shaped_of_RefB (by kernel_rfl) (by kernel_rfl)) (by kernel_rfl) (by kernel_rfl) (by kernel_rfl) (door_met os _)) ?_
  intro W base args ds gs before hval0 hW _ _ hL _
  have hval : ∀ (j : Nat) t v, Tryd.f6.params[j]? = some t → args[j]? = some v → Value.okWide Tryd.prog W .any base t v := hval0
  have hW' := hW
  obtain ⟨p, q, hA0, hV, rfl, hfz, hnd⟩ := hW
  have hA : DataW.TrodAll enc Tryd.prog W 0 (fun _ => true) true Tryd.f6.params.toList args.toList ds p := hA0
  rw [Tryd.params6] at hA hval
  obtain ⟨v0, vs0, d0, ds0, p0, q0, hargs, rfl, rfl, h0, r0⟩ := trodAll_cons hA
  obtain ⟨v1, vs1, d1, ds1, p1, q1, rfl, rfl, rfl, h1, r1⟩ := trodAll_cons r0
  obtain ⟨v2, vs2, d2, ds2, p2, q2, rfl, rfl, rfl, h2, r2⟩ := trodAll_cons r1
  obtain ⟨rfl, rfl, rfl⟩ := trodAll_nil r2
  obtain rfl : args = #[v0, v1, v2] := by cases args; simp_all
  obtain ⟨rfl, rfl⟩ := trodVars_none hV
  have k0 := h0
  have lt0 : ∀ x ∈ p0, x.block < W.heap.size := by obtain ⟨m, hm⟩ := k0; exact DataW.trod_lt m _ _ _ hm
  obtain ⟨a0, rfl, rfl, rfl, w0⟩ := open_string Tryd.underlying9 (hval 0 9 v0 rfl rfl) h0
  have k1 := h1
  have lt1 : ∀ x ∈ p1, x.block < W.heap.size := by obtain ⟨m, hm⟩ := k1; exact DataW.trod_lt m _ _ _ hm
  obtain ⟨a1, rfl, rfl, rfl, w1⟩ := open_int Tryd.underlying3 (hval 1 3 v1 rfl rfl) h1
  have k2 := h2
  have lt2 : ∀ x ∈ p2, x.block < W.heap.size := by obtain ⟨m, hm⟩ := k2; exact DataW.trod_lt m _ _ _ hm
  obtain ⟨a2, rfl, rfl, rfl, w2⟩ := open_int Tryd.underlying3 (hval 2 3 v2 rfl rfl) h2
  clear hA0 hval0
  obtain ⟨ea, hE⟩ := errs_of hL
  have hT2 := type_of hL
  have hI2 := tab_of hL
  refine (wrong_law a0 a1 a2 W w0 w1 w2 ea hE hT2 hI2).mono fun e W' ⟨he, bel⟩ => ?_
  subst he
  exact ⟨_, rfl, _, _, _, [], _, [], hW', trodAll_mk1 (shut_bool Tryd.underlying4 _), (trodAll_cons_mk (Below.trod laidOut (by kernel_rfl) (of_decide_eq_true (by kernel_rfl)) k0 bel lt0) (trodAll_cons_mk (Below.trod laidOut (by kernel_rfl) (of_decide_eq_true (by kernel_rfl)) k1 bel lt1) (trodAll_cons_mk (Below.trod laidOut (by kernel_rfl) (of_decide_eq_true (by kernel_rfl)) k2 bel lt2) trodAll_mk0))), rfl, bel.frame _, fun h => by cases h⟩

theorem said : Rows.ParamsWrongSaid :=
  OpenClaim.holds_of_wide 6 Tryd.f6 rfl rfl rfl rfl rfl rfl rfl ⟨rfl, rfl, rfl, rfl, rfl⟩ rfl rfl rfl rfl rfl (by kernel_rfl) Tryd.func6 (by kernel_rfl)
    (of_decide_eq_true (by kernel_rfl)) (by unfold Func.isWrapper; first | (rw [if_pos (by decide +kernel)]; kernel_rfl) | (rw [if_neg (by decide +kernel)]; exact ⟨rfl, rfl⟩))
    (fun os started H enc _ => lifted os started H enc)

theorem plain (f : FuncId) (fn : Func) (hf : Tryd.pinned.checked.prog.funcNamed "bailee/baileelaw15.ParamsWrong" = some f) (hfn : Tryd.pinned.checked.prog.funcs[f]? = some fn) :
    true = Tryd.pinned.checked.prog.looks [] ∧ ∀ (j : Nat) t, fn.params[j]? = some t → Tryd.pinned.checked.prog.wantsStandIn t = false := by
  obtain rfl : f = 6 := Option.some.inj ((show Tryd.prog.funcNamed "bailee/baileelaw15.ParamsWrong" = some 6 by kernel_rfl).symm.trans hf) |>.symm
  obtain rfl : fn = Tryd.f6 := (Option.some.inj (Tryd.func6.symm.trans hfn)).symm
  refine ⟨by kernel_rfl, fun j t ht => ?_⟩
  rw [Tryd.params6] at ht
  have hm := Array.mem_of_getElem? ht
  simp only [List.mem_toArray, List.mem_cons, List.not_mem_nil, or_false] at hm
  rcases hm with rfl | rfl | rfl
  · exact (show Tryd.prog.wantsStandIn 9 = false by kernel_rfl)
  · exact (show Tryd.prog.wantsStandIn 3 = false by kernel_rfl)
  · exact (show Tryd.prog.wantsStandIn 3 = false by kernel_rfl)

/-- THE CARD. -/
theorem proved : Rows.ParamsWrongCardSaid :=
  Claim7.holds_tied_plain_at .later [] _ _ _ _ said (fun _ h => by cases h) (by kernel_rfl) (fun _ h => by cases h) paramsWrong_row_tie rfl ⟨rfl, rfl⟩ (by kernel_rfl) rfl plain (by kernel_rfl)
#print axioms proved
end Go.Proofs.YtebfjpagecakjaaDoor.paramsWrong
