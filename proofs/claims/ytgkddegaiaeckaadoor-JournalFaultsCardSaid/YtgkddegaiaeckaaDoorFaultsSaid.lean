/-
  The statement 'JournalFaults' ('bailee/baileelaw19.JournalFaults'), out of its walk: for whatever arguments the call returns true and leaves what was there as it was.
-/
import Derived.Test.YtgkddegaiaeckaaDoorFaultLaw
import Derived.Test.YtgkddegaiaeckaaDoorCards
import Derived.Test.YtgkddegaiaeckaaDoorTie
import Derived.LaidMore
import Derived.Test.YtgkddegaiaeckaaDoorLaidTabs
namespace Go.Proofs.YtgkddegaiaeckaaDoor.journalFaults
open Go.ChangeShapes Go.WideShapes Go.ChangeAt Go.RowKit
open Go.ChangeMaps (open_string shut_string)

theorem own : ownKnob Tryd.prog.godebug = none := by kernel_rfl
theorem laidOut : laidOutB Tryd.prog = true := by kernel_rfl

theorem tab_head {P : Program} {W : World} {name : String} {k : IntKind} {zs : List Int} {rest : List (String × DataW Unit)} {ps : List MemPlace} {g : Nat} {t e : TypeId} {n : Nat}
    (hg : P.globalNamed name = some g) (hty : (P.globals[g]?).map (·.type) = some t) (ht : P.underlying t = some (.array n e)) (he : P.underlying e = some (.int k)) (hce : P.cellsOf e = 1) (hct : P.cellsOf t = n)
    (h : DataW.LaidVars P W ((name, Lib.tabData k zs) :: rest) ps) : Lib.TabIs P W name k zs := by
  obtain ⟨g', t', cs, fuel, p, q, hg', ht', hvar, hd, _, _⟩ := h
  obtain rfl := Option.some.inj (hg.symm.trans hg')
  obtain rfl := Option.some.inj (hty.symm.trans ht')
  unfold Lib.TabIs
  rw [hvar, ← Lib.cells_of_tab ht he hce hct hd]
def noHandle : List (String × DataW Unit) := Rows.journalFaultsRow.laid.filter (fun x => x.2.handleName?.isNone)
def errSents : List (String × List UInt8) := ((noHandle.drop 3).take 20).filterMap fun x => match x.2 with | .iface _ (.ptr (.agg [.lit (.string s)])) => some (x.1, s) | _ => none
theorem sents_laid : noHandle = noHandle.take 3 ++ (errSents.map (fun x => (x.1, sentD "*errors.errorString" x.2)) ++ noHandle.drop 23) := by kernel_rfl
theorem tab_laid : noHandle = noHandle.take 2 ++ (("internal/strconv.uint64pow10", Go.Lib.tabData .u64 Lib.pow10Tab) :: noHandle.drop 3) := by kernel_rfl
theorem handle_laid : Rows.journalFaultsRow.laid.filter (fun x => x.2.handleName?.isSome) = [("errors.errorType", Rows.laid_errors_errorType)] := by kernel_rfl
theorem laid_split {W : World} (h : laidMetH Tryd.prog Rows.journalFaultsRow.laid W) : laidMet Tryd.prog noHandle W ∧ handlesMet Tryd.prog [("errors.errorType", Rows.laid_errors_errorType)] W := by
  unfold laidMetH at h
  rw [handle_laid] at h
  exact h
theorem star : "*errors.errorString" = "*" ++ "errors.errorString" := by decide
theorem rowE (u : TypeId) (h : Tryd.prog.typeName? 3 u = some "*errors.errorString") : u = 161 :=
  typeName_ptr_named (nm := "errors.errorString") (by rw [← star]; kernel_rfl) (by kernel_rfl) (by decide) u (by rw [← star]; exact h)
/-- What the row's list gives the walk. -/
theorem errs_of {W : World} (h : laidMetH Tryd.prog Rows.journalFaultsRow.laid W) : ∃ a, Errs 161 errGs W a := by
  obtain ⟨ps, hv, hnd, hrows⟩ := (laid_split h).1
  rw [sents_laid] at hv
  obtain ⟨qa, qb, eps, hv2⟩ := laidVars_dropA _ _ _ hv
  subst eps
  obtain ⟨al, h1, h2, h3, h4⟩ := laid_sents (P := Tryd.prog) (nm := "*errors.errorString") Tryd.underlying41 rowE Tryd.underlying161 Tryd.underlying180 rfl rfl Tryd.underlying9 (by kernel_rfl) (by kernel_rfl)
    _ errSents errGs qb (by kernel_rfl) (by kernel_rfl) hv2 (List.nodup_append.1 hnd).2.1 (fun b off hb => hrows b off (List.mem_append_right _ hb))
  exact ⟨_, Errs.of_list h1 h2 (fun a ha => (h3 a ha).2.2) h4⟩
theorem tab_of {W : World} (h : laidMetH Tryd.prog Rows.journalFaultsRow.laid W) : Lib.TabIs Tryd.prog W "internal/strconv.uint64pow10" .u64 Lib.pow10Tab := by
  obtain ⟨ps, hv, hnd, hrows⟩ := (laid_split h).1
  rw [tab_laid] at hv
  obtain ⟨q, hv2⟩ := laidVars_drop _ _ _ hv
  exact tab_head (g := 25) (t := 156) (e := 35) (n := 20) (by kernel_rfl) (by kernel_rfl) Tryd.underlying156 Tryd.underlying35 (by kernel_rfl) (by kernel_rfl) hv2
theorem tab_laid0 : noHandle = noHandle.take 23 ++ (("bailee/sha.first", Go.Lib.tabData .u32 shaFirst) :: noHandle.drop 24) := by kernel_rfl
theorem tab_laid1 : noHandle = noHandle.take 24 ++ (("bailee/sha.added", Go.Lib.tabData .u32 shaAdded) :: noHandle.drop 25) := by kernel_rfl
/-- What the row's list gives the walk at the tables of SHA-256. -/
theorem tabs_of {W : World} (h : laidMetH Tryd.prog Rows.journalFaultsRow.laid W) : ShaF W ∧ ShaK W := by
  obtain ⟨ps, hv, hnd, hrows⟩ := (laid_split h).1
  have hw0 := hv
  rw [tab_laid0] at hw0
  obtain ⟨q0, hv0⟩ := laidVars_drop _ _ _ hw0
  obtain ⟨t0, f0, r0⟩ := tab_row (P := Tryd.prog) (t := 138) (e := 92) (n := 8) (g := 23) (by kernel_rfl) (by kernel_rfl) Tryd.underlying138 Tryd.underlying92 (by kernel_rfl) (by kernel_rfl) hv0
  have hw1 := hv
  rw [tab_laid1] at hw1
  obtain ⟨q1, hv1⟩ := laidVars_drop _ _ _ hw1
  obtain ⟨t1, f1, r1⟩ := tab_row (P := Tryd.prog) (t := 94) (e := 92) (n := 64) (g := 24) (by kernel_rfl) (by kernel_rfl) Tryd.underlying94 Tryd.underlying92 (by kernel_rfl) (by kernel_rfl) hv1
  exact ⟨(fun i hi => shaFirst_at r0 i hi), (fun t ht => shaAdded_at r1 t ht)⟩
theorem et : Tryd.prog.globalNamed "errors.errorType" = some 22 := by kernel_rfl
theorem rt : (Tryd.prog.cutTypes.find? (·.1 == "internal/reflectlite.rtype")).map (·.2) = some 124 := by kernel_rfl
theorem oneRow : ((List.range 192).filter fun t => Tryd.prog.rowNamed t [101, 114, 114, 111, 114]) = [41] := by kernel_rfl
theorem nTypes : Tryd.prog.types.size = 192 := by kernel_rfl
theorem type_of {W : World} (h : laidMetH Tryd.prog Rows.journalFaultsRow.laid W) : TypeVar W := by
  obtain ⟨name, u, ty, e1, e2, e3, e4, e5⟩ := (laid_split h).2 _ (List.mem_singleton.2 rfl)
  have en : name = [101, 114, 114, 111, 114] := (Option.some.inj e1).symm
  subst en
  obtain rfl := Option.some.inj (rt.symm.trans e2)
  have hm : ty ∈ (List.range 192).filter fun t => Tryd.prog.rowNamed t [101, 114, 114, 111, 114] := List.mem_filter.2 ⟨List.mem_range.2 (by rw [← nTypes]; exact e3), e4⟩
  rw [oneRow] at hm
  obtain rfl := List.mem_singleton.1 hm
  have hh : typeHandle Tryd.prog 41 = .pointer (some ⟨28, 41, none⟩) := by kernel_rfl
  rw [hh] at e5
  simpa using World.var?_cell et e5 0
theorem door_met (os : Os) (args : Array Value) : laidMetH Tryd.prog Rows.journalFaultsRow.laid ((World.doorLaid Tryd.prog 431 os).forCall (fun _ _ => 0) ⟨#[], args, []⟩).memory :=
  laidMetH_of_parts3 (fuel := 8) (laidMet_of_run' 8 (by kernel_rfl) (by kernel_rfl)) (by kernel_rfl) (by kernel_rfl)

set_option maxRecDepth 100000 in
theorem lifted (os : Os) (started : os.Started) (H : Type) (enc : TypeId × Value → H) :
    ReturnsInHanded {} Tryd.checked os 5 .any (fun w args => (Rows.journalFaultsSpec.pre enc Tryd.prog Tryd.f5 [] false w args ∧ laidMetH Tryd.prog Rows.journalFaultsRow.laid w) ∧ sizedMet enc Tryd.prog Tryd.f5 (OpenSpec.ofChange Rows.journalFaultsSpec) false w args) (Rows.journalFaultsSpec.post enc Tryd.prog Tryd.f5 false true false false) := by
  refine returnsInHanded_of_change_and (C := Tryd.checked) (X := fun w _ => laidMetH Tryd.prog Rows.journalFaultsRow.laid w) (fun _ _ _ hh h => h.of_heap hh) own started (by kernel_rfl) Tryd.func5
    (ChangeSpec.witness_shaped (enc := enc) (C := Tryd.checked) (os := os) (X := fun w _ => laidMetH Tryd.prog Rows.journalFaultsRow.laid w) false (World.doorLaid Tryd.prog 431 os) #[.string ByteArray.empty, .int .i64 0, .int .i64 0] 8 rfl (World.shaped_of_RefB (by kernel_rfl) (by kernel_rfl)) (by kernel_rfl) (by kernel_rfl) (by kernel_rfl) (door_met os _)) ?_
  intro W base args ds gs before hval0 hW _ _ hL _
  have hval : ∀ (j : Nat) t v, Tryd.f5.params[j]? = some t → args[j]? = some v → Value.okWide Tryd.prog W .any base t v := hval0
  have hW' := hW
  obtain ⟨p, q, hA0, hV, rfl, hfz, hnd⟩ := hW
  have hA : DataW.TrodAll enc Tryd.prog W 0 (fun _ => true) true Tryd.f5.params.toList args.toList ds p := hA0
  rw [Tryd.params5] at hA hval
  obtain ⟨v0, vs0, d0, ds0, p0, q0, hargs, rfl, rfl, h0, r0⟩ := trodAll_cons hA
  obtain ⟨v1, vs1, d1, ds1, p1, q1, rfl, rfl, rfl, h1, r1⟩ := trodAll_cons r0
  obtain ⟨v2, vs2, d2, ds2, p2, q2, rfl, rfl, rfl, h2, r2⟩ := trodAll_cons r1
  obtain ⟨rfl, rfl, rfl⟩ := trodAll_nil r2
  obtain rfl : args = #[v0, v1, v2] := by cases args; simp_all
  obtain ⟨rfl, rfl⟩ := trodVars_none hV
  have k0 := h0
  have lt0 : ∀ x ∈ p0, x.block < W.heap.size := by obtain ⟨m, hm⟩ := k0; exact DataW.trod_lt m _ _ _ hm
  obtain ⟨a0, rfl, rfl, rfl, w0⟩ := open_string Tryd.underlying9 (hval 0 9 v0 rfl rfl) h0
  have k1 := h1
  have lt1 : ∀ x ∈ p1, x.block < W.heap.size := by obtain ⟨m, hm⟩ := k1; exact DataW.trod_lt m _ _ _ hm
  obtain ⟨a1, rfl, rfl, rfl, w1⟩ := open_int Tryd.underlying3 (hval 1 3 v1 rfl rfl) h1
  have k2 := h2
  have lt2 : ∀ x ∈ p2, x.block < W.heap.size := by obtain ⟨m, hm⟩ := k2; exact DataW.trod_lt m _ _ _ hm
  obtain ⟨a2, rfl, rfl, rfl, w2⟩ := open_int Tryd.underlying3 (hval 2 3 v2 rfl rfl) h2
  clear hA0 hval0
  obtain ⟨ea, hE⟩ := errs_of hL
  have hT2 := type_of hL
  have hI2 := tab_of hL
  obtain ⟨hSF, hSK⟩ := tabs_of hL
  refine (faults_law a0 a1 a2 W w0 w1 w2 ea hE hT2 hSK hSF hI2).mono fun e W' ⟨he, bel⟩ => ?_
  subst he
  exact ⟨_, rfl, _, _, _, [], _, [], hW', trodAll_mk1 (shut_bool Tryd.underlying4 _), (trodAll_cons_mk (Below.trod laidOut (by kernel_rfl) (of_decide_eq_true (by kernel_rfl)) k0 bel lt0) (trodAll_cons_mk (Below.trod laidOut (by kernel_rfl) (of_decide_eq_true (by kernel_rfl)) k1 bel lt1) (trodAll_cons_mk (Below.trod laidOut (by kernel_rfl) (of_decide_eq_true (by kernel_rfl)) k2 bel lt2) trodAll_mk0))), rfl, bel.frame _, fun h => by cases h⟩

theorem said : Rows.JournalFaultsSaid :=
  OpenClaim.holds_of_wide 5 Tryd.f5 rfl rfl rfl rfl rfl rfl rfl ⟨rfl, rfl, rfl, rfl, rfl⟩ rfl rfl rfl rfl rfl (by kernel_rfl) Tryd.func5 (by kernel_rfl)
    (of_decide_eq_true (by kernel_rfl)) (by unfold Func.isWrapper; first | (rw [if_pos (by decide +kernel)]; kernel_rfl) | (rw [if_neg (by decide +kernel)]; exact ⟨rfl, rfl⟩))
    (fun os started H enc _ => lifted os started H enc)

theorem plain (f : FuncId) (fn : Func) (hf : Tryd.pinned.checked.prog.funcNamed "bailee/baileelaw19.JournalFaults" = some f) (hfn : Tryd.pinned.checked.prog.funcs[f]? = some fn) :
    true = Tryd.pinned.checked.prog.looks [] ∧ ∀ (j : Nat) t, fn.params[j]? = some t → Tryd.pinned.checked.prog.wantsStandIn t = false := by
  obtain rfl : f = 5 := Option.some.inj ((show Tryd.prog.funcNamed "bailee/baileelaw19.JournalFaults" = some 5 by kernel_rfl).symm.trans hf) |>.symm
  obtain rfl : fn = Tryd.f5 := (Option.some.inj (Tryd.func5.symm.trans hfn)).symm
  refine ⟨by kernel_rfl, fun j t ht => ?_⟩
  rw [Tryd.params5] at ht
  have hm := Array.mem_of_getElem? ht
  simp only [List.mem_toArray, List.mem_cons, List.not_mem_nil, or_false] at hm
  rcases hm with rfl | rfl | rfl
  · exact (show Tryd.prog.wantsStandIn 9 = false by kernel_rfl)
  · exact (show Tryd.prog.wantsStandIn 3 = false by kernel_rfl)
  · exact (show Tryd.prog.wantsStandIn 3 = false by kernel_rfl)

/-- THE CARD. -/
theorem proved : Rows.JournalFaultsCardSaid :=
  Claim7.holds_tied_plain_at .later [] _ _ _ _ said (fun _ h => by cases h) (by kernel_rfl) (fun _ h => by cases h) journalFaults_row_tie rfl ⟨rfl, rfl⟩ (by kernel_rfl) rfl plain (by kernel_rfl)
#print axioms proved
end Go.Proofs.YtgkddegaiaeckaaDoor.journalFaults
