/-
  DERIVED. GIVEN WITH THE SEED: THE CARDS: each row of YtpehdoepcpmnbaaDoorRows.lean that lists a variable, with what it lists TIED to the program's text (the seventh form; the later family's looks); each row that meets fmt, with fmt's text TOLD by the authors' own Lean function (tested against real Go, not proved from fmt's source: count such statements apart). THE CARD IS WHAT COUNTS. Prove the row's statement (the work); the ties are given (YtpehdoepcpmnbaaDoorTie.lean); close each card by the builder's one call (the guide's Derived/Test/ToyasCard.lean, 'card_holds'). Laid BY PROGRAM, IN A SANDBOX (cutbox-door.mjs). By AI agents, Wed Nov 11 2026. No macro, syntax, notation, axiom, sorry.
-/
import Derived.Test.YtpehdoepcpmnbaaDoorRows
import GoSem.ClaimSeven
namespace Go.Proofs.YtpehdoepcpmnbaaDoor
namespace Rows

/-- THE TIED CARD OF 'baileelaw34.ModelGrows'. -/
def modelGrowsCard : Claim7 := { stood := { row := modelGrowsRow, standIns := [], harness := (true, "db4d4df05687ed11b667b96832a15eab676eff3e261c83871d3b66cef2d7df97"), looks := true }, kinds := [], alts := [], laidByText := true, laidKinds := [.data, .sentinel, .sentinel, .sentinel, .sentinel, .sentinel, .sentinel, .sentinel, .sentinel, .sentinel, .pinned], laidTests := true, laidLooks := .later }
def ModelGrowsCardSaid : Prop := Claim7.holds Tryd.pinned (.plain (OpenSpec.ofChange modelGrowsSpec)) modelGrowsCard

/-- THE TIED CARD OF 'baileelaw34.ModelPlays'. -/
def modelPlaysCard : Claim7 := { stood := { row := modelPlaysRow, standIns := [], harness := (true, "db4d4df05687ed11b667b96832a15eab676eff3e261c83871d3b66cef2d7df97"), looks := true }, kinds := [], alts := [], laidByText := true, laidKinds := [.data, .sentinel, .sentinel, .sentinel, .sentinel, .sentinel, .sentinel, .sentinel, .sentinel, .sentinel, .sentinel, .sentinel, .sentinel, .sentinel, .sentinel, .sentinel, .sentinel, .sentinel, .sentinel, .sentinel, .sentinel, .pinned], laidTests := true, laidLooks := .later }
def ModelPlaysCardSaid : Prop := Claim7.holds Tryd.pinned (.plain (OpenSpec.ofChange modelPlaysSpec)) modelPlaysCard

/-- THE TIED CARD OF 'baileelaw34.ModelOf'. -/
def modelOfCard : Claim7 := { stood := { row := modelOfRow, standIns := [], harness := (true, "db4d4df05687ed11b667b96832a15eab676eff3e261c83871d3b66cef2d7df97"), looks := true }, kinds := [], alts := [], laidByText := true, laidKinds := [.data, .sentinel, .sentinel, .sentinel, .sentinel, .sentinel, .sentinel, .sentinel, .sentinel, .sentinel, .sentinel, .pinned], laidTests := true, laidLooks := .later }
def ModelOfCardSaid : Prop := Claim7.holds Tryd.pinned (.plain (OpenSpec.ofChange modelOfSpec)) modelOfCard

/-- THE SECOND FORM's CARD OF 'baileelaw34.ModelGrows'. -/
def modelGrowsUptoCard : Claim7 := { stood := { row := modelGrowsUptoRow, standIns := [], harness := (true, "db4d4df05687ed11b667b96832a15eab676eff3e261c83871d3b66cef2d7df97"), looks := true }, kinds := [], alts := [], laidByText := true, laidKinds := [.data, .sentinel, .sentinel, .sentinel, .sentinel, .sentinel, .sentinel, .sentinel, .sentinel, .sentinel, .pinned], laidTests := true, laidLooks := .later }
def ModelGrowsUptoCardSaid : Prop := Claim7.holds Tryd.pinned (.plain (OpenSpec.upto modelGrowsSpec)) modelGrowsUptoCard

/-- THE SECOND FORM's CARD OF 'baileelaw34.ModelPlays'. -/
def modelPlaysUptoCard : Claim7 := { stood := { row := modelPlaysUptoRow, standIns := [], harness := (true, "db4d4df05687ed11b667b96832a15eab676eff3e261c83871d3b66cef2d7df97"), looks := true }, kinds := [], alts := [], laidByText := true, laidKinds := [.data, .sentinel, .sentinel, .sentinel, .sentinel, .sentinel, .sentinel, .sentinel, .sentinel, .sentinel, .sentinel, .sentinel, .sentinel, .sentinel, .sentinel, .sentinel, .sentinel, .sentinel, .sentinel, .sentinel, .sentinel, .pinned], laidTests := true, laidLooks := .later }
def ModelPlaysUptoCardSaid : Prop := Claim7.holds Tryd.pinned (.plain (OpenSpec.upto modelPlaysSpec)) modelPlaysUptoCard

/-- THE SECOND FORM's CARD OF 'baileelaw34.ModelOf'. -/
def modelOfUptoCard : Claim7 := { stood := { row := modelOfUptoRow, standIns := [], harness := (true, "db4d4df05687ed11b667b96832a15eab676eff3e261c83871d3b66cef2d7df97"), looks := true }, kinds := [], alts := [], laidByText := true, laidKinds := [.data, .sentinel, .sentinel, .sentinel, .sentinel, .sentinel, .sentinel, .sentinel, .sentinel, .sentinel, .sentinel, .pinned], laidTests := true, laidLooks := .later }
def ModelOfUptoCardSaid : Prop := Claim7.holds Tryd.pinned (.plain (OpenSpec.upto modelOfSpec)) modelOfUptoCard
end Rows
end Go.Proofs.YtpehdoepcpmnbaaDoor
