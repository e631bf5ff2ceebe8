/- 'region_on (arms)': a region that draws its order of evaluation, whose operations read, make new memory, or call functions that only add to the memory: ONE way through it. The condition that is held is 'the world has only grown since ..'; it is renewed behind each call. -/
import Derived.Deep.RegionHeld3
import Derived.Test.YtkoeejpiaffmfaaDoorMem
namespace Go.Proofs.YtkoeejpiaffmfaaDoor
open Go Go.RowKit Lean Elab Tactic Meta

section
variable {P : Program} {ops : Array Oper} {Q : Exit → Act → World → Prop} {md : Region.Mode}

/-- The condition may be made stronger on the way. -/
theorem wpAnyH_weaken {S S' : World → Prop} (h : ∀ w, S' w → S w) : ∀ (fuel : Nat) (listed : Array Bool) (a : Act) (w : World), wpAnyH P md ops Q S' fuel listed a w → wpAnyH P md ops Q S fuel listed a w
  | 0, _, _, _, hh => hh
  | fuel + 1, _, _, _, hh => ⟨hh.1, fun i hi => wpOp_mono (fun a' w' h' => ⟨h _ h'.1, wpAnyH_weaken h fuel _ a' w' h'.2⟩) (hh.2 i hi)⟩

/-- W is w0, with more memory. -/
abbrev Grown (w0 W : World) : Prop := Below w0.heap.size w0 W
theorem Grown.refl (w : World) : Grown w w := Below.refl _ _
theorem Grown.trans {a b c : World} (h : Grown a b) (h' : Grown b c) : Grown a c := Below.trans h (h'.mono h.size)
theorem Grown.drew {a b : World} (h : Grown a b) : Grown a b.drew := Below.trans h (Drawn.below ⟨1, rfl⟩ _)
theorem Grown.alloc {a b : World} (h : Grown a b) (o : Obj) : Grown a (b.alloc o) := Below.alloc h h.size o
theorem wpAnyH_onward {w0 w1 : World} {fuel : Nat} {listed : Array Bool} {a : Act} (h : Grown w0 w1) (hh : Grown w1 w1 → wpAnyH P md ops Q (Grown w1) fuel listed a w1) : wpAnyH P md ops Q (Grown w0) fuel listed a w1 :=
  wpAnyH_weaken (fun _ h' => h.trans h') _ _ _ _ (hh (Grown.refl w1))
end

/-- Put the state in order. -/
def tidy : TacticM Unit := do evalTactic (← `(tactic| try simp only [Act.put, List.setIfInBounds_toArray, List.set_cons_zero, List.set_cons_succ]))

partial def onWalk (arm : TSyntax `tactic) (tell : Bool) : TacticM Unit := withMainContext do
  let t := (← instantiateMVars (← getMainTarget)).consumeMData
  unless t.isAppOfArity ``wpAnyH 9 do throwError "region_on: no region at hand:\n{t}"
  let args := t.getAppArgs
  let md := args[1]!
  let ops := args[2]!
  let listed := args[6]!
  let ready ← kernelNats (mkApp3 (mkConst ``Region.ready) md ops listed)
  if ready.isEmpty then
    evalTactic (← `(tactic| refine wpAnyH_done (by kernel_rfl) ?_ _))
    return
  let hOn := mkIdent `hOn
  -- what need not be branched over
  let mut why : MessageData := m!""
  for i in ready do
    let some oe := opAt ops i | throwError "region_on: the region is not written out"
    unless ← kernelBool (mkApp4 (mkConst ``Region.free) md ops listed (mkNatLit i)) do continue
    let oStx ← Term.exprToSyntax oe
    let s ← saveState
    let skipped ← try
      Tactic.withoutRecover (evalTactic (← `(tactic| refine wpAnyH_take (i := $(quote i)) (oi := $oStx) (v := undef) rfl (by kernel_rfl) (by kernel_rfl) (by kernel_rfl) (fun _ _ _ h => h) (Or.inr ⟨by rfl, rfl⟩) $hOn:ident ?_)))
      pure true
    catch _ => s.restore; pure false
    if skipped then
      if tell then logInfo m!"region_on: {i} is not wanted"
      tidy
      onWalk arm tell
      return
    let hd := opHead ops i
    let plain := (match hd with | some n => worldless.contains n | none => false) || hd == some ``Op.load || takenFirstToo ops i
    unless plain do continue
    let took ← try
      Tactic.withoutRecover (evalTactic (← `(tactic| refine wpAnyH_take (i := $(quote i)) (oi := $oStx) (v := ?_) rfl (by kernel_rfl) (by kernel_rfl) (by kernel_rfl) (fun _ _ _ h => h) (Or.inl ⟨by rfl, ?_⟩) $hOn:ident ?_)))
      let gs ← getGoals
      let [_, hy, rest] := gs | throwError "three goals expected"
      setGoals [hy]
      evalTactic (← `(tactic| (intro W hSW; go_simp)))
      unless (← getGoals).isEmpty do evalTactic (← `(tactic| with_reducible rfl))
      unless (← getGoals).isEmpty do throwError "not closed"
      setGoals [rest]
      pure true
    catch e =>
      s.restore
      why := why ++ m!"\n{i}: {e.toMessageData}"
      pure false
    if took then
      if tell then logInfo m!"region_on: {i} is taken"
      tidy
      onWalk arm tell
      return
  if tell then logInfo m!"region_on: may come up: {ready}; not taken:{why}"
  let lits : Array (TSyntax `term) := ready.toArray.map fun i => quote i
  evalTactic (← `(tactic| refine wpAnyH_ready (rs := [$lits,*]) (by kernel_rfl) (by simp) ?_))
  let mut done : List MVarId := []
  for i in ready do
    let some oe := opAt ops i | throwError "region_on: the region is not written out"
    let oStx ← Term.exprToSyntax oe
    evalTactic (← `(tactic| refine AllReadyH.cons (o := $oStx) rfl (fun K hK => ?_) ?_))
    let gs ← getGoals
    let [step, more] := gs | throwError "region_on: two goals expected"
    setGoals [step]
    let call := opHead ops i == some ``Op.call && !takenFirstToo ops i
    evalTactic (← `(tactic| go_simp))
    unless (← instantiateMVars (← getMainTarget)).consumeMData.getAppFn.isFVar do
      withMainContext do
        evalTactic arm
        unless (← getGoals).isEmpty || (← instantiateMVars (← getMainTarget)).consumeMData.getAppFn.isFVar do evalTactic (← `(tactic| go_wp2_with fail))
    unless (← getGoals).length == 1 do throwError "region_on: operation {i}: {(← getGoals).length} goals are left"
    let left := (← instantiateMVars (← getMainTarget)).consumeMData
    unless left.getAppFn.isFVar do throwError "region_on: operation {i} stands (not taken:{why}):\n{left}"
    evalTactic (← `(tactic| refine hK.out _ _ ?_ (fun hNext => ?_)))
    let gs ← getGoals
    let [hS, rest] := gs | throwError "region_on: two goals expected behind the step"
    setGoals [hS]
    let hnew := mkIdent `hnew
    withMainContext do evalTactic (← `(tactic| first | exact $hOn:ident | exact Grown.alloc $hOn:ident _ | exact Grown.trans $hOn:ident $hnew:ident | exact Below.trans $hOn:ident (Below.mono $hnew:ident (Below.size $hOn:ident))))
    setGoals [rest]
    withMainContext do
      evalTactic (← `(tactic| clear hK K $hOn))
      if call then
        evalTactic (← `(tactic| (refine wpAnyH_onward hNext (fun $hOn => ?_); clear hNext; try clear $hnew)))
      else
        evalTactic (← `(tactic| rename_i $hOn:ident))
    tidy
    onWalk arm tell
    done := done ++ (← getGoals)
    setGoals [more]
  evalTactic (← `(tactic| exact AllReadyH.nil))
  setGoals done

def onStart (arm : TSyntax `tactic) (tell : Bool) : TacticM Unit := withMainContext do
  let t := (← instantiateMVars (← getMainTarget)).consumeMData
  unless t.isAppOf ``Code.wp && (t.getAppArgs[1]!).isAppOf ``Code.region do throwError "region_on: the goal is no region: go on with go_wp2 till it stands still"
  let hOn := mkIdent `hOn
  let w := t.getAppArgs[4]!
  let wStx ← Term.exprToSyntax w
  evalTactic (← `(tactic| refine wp_region_held_drew (S := Grown $wStx) (by kernel_rfl) (Grown.drew (Grown.refl _)) (fun $hOn => ?_)))
  onWalk arm tell

elab "region_on " "(" arm:tactic ")" : tactic => onStart arm false
elab "region_on? " "(" arm:tactic ")" : tactic => onStart arm true

end Go.Proofs.YtkoeejpiaffmfaaDoor
