/- 'region_on (arms)': a region that draws its order of evaluation, whose operations read, make new memory, or call functions that only add to the memory: ONE way through it. The condition that is held is 'the world has only grown since ..'; it is renewed behind each call. -/
import Derived.Deep.RegionHeld3
import Derived.Test.YtpehdoepcpmnbaaDoorF5ModelOfSaid
namespace Go.Proofs.YtpehdoepcpmnbaaDoor
open Go Go.RowKit Lean Elab Tactic Meta

/-- Put the state in order. -/
def tidy : TacticM Unit := do evalTactic (← `(tactic| try simp only [Act.put, List.setIfInBounds_toArray, List.set_cons_zero, List.set_cons_succ]))

partial def onWalk (arm : TSyntax `tactic) (tell : Bool) (fix : Bool := false) : TacticM Unit := withMainContext do
  let t := (← instantiateMVars (← getMainTarget)).consumeMData
  unless t.isAppOfArity ``wpAnyH 9 do throwError "region_on: no region at hand:\n{t}"
  let args := t.getAppArgs
  let md := args[1]!
  let ops := args[2]!
  let listed := args[6]!
  let ready ← kernelNats (mkApp3 (mkConst ``Region.ready) md ops listed)
  if ready.isEmpty then
    if tell then logInfo m!"ON end"
    evalTactic (← `(tactic| refine wpAnyH_done (by kernel_rfl) ?_ _))
    return
  let hOn := mkIdent `hOn
  let rawB := ((← getLCtx).findFromUserName? `hraw).isSome
  -- what need not be branched over
  let mut why : MessageData := m!""
  for i in ready do
    let some oe := opAt ops i | throwError "region_on: the region is not written out"
    unless ← kernelBool (mkApp4 (mkConst ``Region.free) md ops listed (mkNatLit i)) do continue
    let oStx ← Term.exprToSyntax oe
    let s ← saveState
    let skipped ← try
      Tactic.withoutRecover (evalTactic (← `(tactic| refine wpAnyH_take (i := $(quote i)) (oi := $oStx) (v := undef) rfl (by kernel_rfl) (by kernel_rfl) (by kernel_rfl) (fun _ _ _ h => h) (Or.inr ⟨by rfl, rfl⟩) $hOn:ident ?_)))
      pure true
    catch _ => s.restore; pure false
    if skipped then
      if tell then logInfo m!"ON skip {i}"
      tidy
      onWalk arm tell fix
      return
    let hd := opHead ops i
    if hd == some ``Op.load then
      let yl := mkIdent `yields_load_row
      let mut got := false
      for (nm, r, u, z) in [("rowA", `rlA, `huA, `hzA), ("rowB", `rlB, `huB, `hzB), ("rowC", `rlC, `huC, `hzC)] do
        unless got do
          let s ← saveState
          try
            let (r, u, z) := (mkIdent r, mkIdent u, mkIdent z)
            Tactic.withoutRecover (evalTactic (← `(tactic| refine wpAnyH_take (i := $(quote i)) (oi := $oStx) (v := Value.agg _) rfl (by kernel_rfl) (by kernel_rfl) (by kernel_rfl) (fun _ _ _ h => h) (Or.inl ⟨by rfl, fun W hSW => $yl _ _ rfl _ _ _ rfl ($r W hSW) $u rfl $z⟩) $hOn:ident ?_)))
            got := true
            if tell then logInfo m!"ON {nm} {i}"
          catch e => do
            s.restore
            why := why ++ m!"\n{i} as {nm}: {e.toMessageData}"
      if got then
        tidy
        onWalk arm tell fix
        return
    if rawB then
      let s ← saveState
      let got ← try
        let r := mkIdent (if hd == some ``Op.lookup then `lkA else if hd == some ``Op.build then `lkB else `lkC)
        Tactic.withoutRecover (evalTactic (← `(tactic| refine wpAnyH_take (i := $(quote i)) (oi := $oStx) (v := _) rfl (by kernel_rfl) (by kernel_rfl) (by kernel_rfl) (fun _ _ _ h => h) (Or.inl ⟨by rfl, fun W hSW => $r W hSW _ _ rfl rfl rfl⟩) $hOn:ident ?_)))
        pure true
      catch _ => s.restore; pure false
      if got then
        if tell then logInfo m!"ON {if hd == some ``Op.lookup then "lkA" else if hd == some ``Op.build then "lkB" else "lkC"} {i}"
        tidy
        onWalk arm tell fix
        return
    if rawB && (hd == some ``Op.build || hd == some ``Op.buildSlice) then continue
    let plain := (match hd with | some n => worldless.contains n | none => false) || hd == some ``Op.load || takenFirstToo ops i
    unless plain do continue
    let took ← try
      Tactic.withoutRecover (evalTactic (← `(tactic| refine wpAnyH_take (i := $(quote i)) (oi := $oStx) (v := ?_) rfl (by kernel_rfl) (by kernel_rfl) (by kernel_rfl) (fun _ _ _ h => h) (Or.inl ⟨by rfl, ?_⟩) $hOn:ident ?_)))
      let gs ← getGoals
      let [_, hy, rest] := gs | throwError "three goals expected"
      setGoals [hy]
      evalTactic (← `(tactic| (intro W hSW; go_simp)))
      unless (← getGoals).isEmpty do evalTactic (← `(tactic| with_reducible rfl))
      unless (← getGoals).isEmpty do throwError "not closed"
      setGoals [rest]
      pure true
    catch e =>
      s.restore
      why := why ++ m!"\n{i}: {e.toMessageData}"
      pure false
    if took then
      if tell then logInfo m!"ON take {i}"
      tidy
      onWalk arm tell fix
      return
  if tell then logInfo m!"region_on: may come up: {ready}; not taken:{why}"
  if tell && ready.length > 1 then logInfo m!"ON split {ready.length}"
  let lits : Array (TSyntax `term) := ready.toArray.map fun i => quote i
  evalTactic (← `(tactic| refine wpAnyH_ready (rs := [$lits,*]) (by kernel_rfl) (by simp) ?_))
  let mut done : List MVarId := []
  for i in ready do
    let some oe := opAt ops i | throwError "region_on: the region is not written out"
    let oStx ← Term.exprToSyntax oe
    evalTactic (← `(tactic| refine AllReadyH.cons (o := $oStx) rfl (fun K hK => ?_) ?_))
    let gs ← getGoals
    let [step, more] := gs | throwError "region_on: two goals expected"
    setGoals [step]
    let call := opHead ops i == some ``Op.call && !takenFirstToo ops i
    let mut raw := false
    if opHead ops i == some ``Op.store || opHead ops i == some ``Op.call || opHead ops i == some ``Op.load || rawB then
      let s ← saveState
      raw ← try
        withMainContext do Tactic.withoutRecover (evalTactic arm)
        pure ((← getGoals).length == 1)
      catch e => do
        s.restore
        if tell then logInfo m!"the arms at the step {i}: {e.toMessageData}"
        pure false
      if raw then
        s.restore
        if tell then logInfo m!"ON raw {i}"
        withMainContext do evalTactic arm
    unless raw do
      if tell then logInfo m!"ON {if call then "call" else "other"} {i}"
      evalTactic (← `(tactic| go_simp))
    let mut fresh := call || raw
    unless (← instantiateMVars (← getMainTarget)).consumeMData.getAppFn.isFVar do
      withMainContext do
        if call then evalTactic arm else evalTactic (← `(tactic| go_wp2_with fail))
        unless (← getGoals).isEmpty || (← instantiateMVars (← getMainTarget)).consumeMData.getAppFn.isFVar do evalTactic (← `(tactic| go_wp2_with fail))
    unless call || raw do
      if (← getGoals).length == 1 && (← instantiateMVars (← getMainTarget)).consumeMData.getAppFn.isFVar then
        let s ← saveState
        fresh ← try
          withMainContext do Tactic.withoutRecover (evalTactic arm)
          pure ((← getGoals).length == 1)
        catch e => do
          s.restore
          if tell then logInfo m!"the arms behind {i}: {e.toMessageData}"
          pure false
    unless (← getGoals).length == 1 do throwError "region_on: operation {i}: {(← getGoals).length} goals are left\n{← getGoals}"
    let left := (← instantiateMVars (← getMainTarget)).consumeMData
    unless left.getAppFn.isFVar do throwError "region_on: operation {i} stands (not taken:{why}):\n{left}"
    evalTactic (← `(tactic| refine hK.out _ _ ?_ (fun hNext => ?_)))
    let gs ← getGoals
    let [hS, rest] := gs | throwError "region_on: two goals expected behind the step"
    setGoals [hS]
    let hnew := mkIdent `hnew
    withMainContext do evalTactic (← `(tactic| first | exact $(mkIdent `hS):ident | exact $hOn:ident | exact Grown.trans $hOn:ident $hnew:ident | exact Below.trans $hOn:ident (Below.mono $hnew:ident (Below.size $hOn:ident)) | exact Grown.alloc $hOn:ident _ | exact Below.alloc $hOn:ident (Below.size $hOn:ident) _ | exact Grown.alloc (Grown.refl _) _))
    setGoals [rest]
    withMainContext do
      evalTactic (← `(tactic| clear hK K $hOn))
      if fresh && !fix then
        evalTactic (← `(tactic| (refine wpAnyH_onward hNext (fun $hOn => ?_); clear hNext; try clear $hnew)))
      else
        evalTactic (← `(tactic| rename_i $hOn:ident))
        if fresh then evalTactic (← `(tactic| ((try clear $hnew:ident); (try clear $(mkIdent `hS):ident))))
    tidy
    onWalk arm tell fix
    done := done ++ (← getGoals)
    setGoals [more]
  evalTactic (← `(tactic| exact AllReadyH.nil))
  setGoals done

def onStart (arm : TSyntax `tactic) (tell : Bool) : TacticM Unit := withMainContext do
  let t := (← instantiateMVars (← getMainTarget)).consumeMData
  unless t.isAppOf ``Code.wp && (t.getAppArgs[1]!).isAppOf ``Code.region do throwError "region_on: the goal is no region: go on with go_wp2 till it stands still"
  let hOn := mkIdent `hOn
  let wd := mkIdent `wd
  evalTactic (← `(tactic| refine wp_region_on2 (by kernel_rfl) (fun $wd $hOn => ?_)))
  onWalk arm tell

def fixStart (s h wd : TSyntax `term) (arm : TSyntax `tactic) (tell : Bool) : TacticM Unit := withMainContext do
  let t := (← instantiateMVars (← getMainTarget)).consumeMData
  unless t.isAppOf ``Code.wp && (t.getAppArgs[1]!).isAppOf ``Code.region do throwError "region_fix: the goal is no region: go on with go_wp2 till it stands still"
  let hOn := mkIdent `hOn
  evalTactic (← `(tactic| refine wp_region_held_drew (S := $s) (by kernel_rfl) $h (fun $hOn => ?_)))
  let x := mkIdent `wd
  evalTactic (← `(tactic| generalize World.drew $wd = $x at *))
  onWalk arm tell true

elab "region_fix " s:term:max h:term:max wd:term:max " (" arm:tactic ")" : tactic => fixStart s h wd arm false
elab "region_fix? " s:term:max h:term:max wd:term:max " (" arm:tactic ")" : tactic => fixStart s h wd arm true
elab "on_tick " n:num : tactic => logInfo m!"ON arm {n.getNat}"
elab "region_on " "(" arm:tactic ")" : tactic => onStart arm false
elab "region_on? " "(" arm:tactic ")" : tactic => onStart arm true

end Go.Proofs.YtpehdoepcpmnbaaDoor
