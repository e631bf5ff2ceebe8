/-
  DERIVED. GIVEN WITH THE SEED: THE CARDS: each row of YtfagjlfnmkfjoaaDoorRows.lean that lists a variable, with what it lists TIED to the program's text (the seventh form; the later family's looks); each row that meets fmt, with fmt's text TOLD by the authors' own Lean function (tested against real Go, not proved from fmt's source: count such statements apart). THE CARD IS WHAT COUNTS. Prove the row's statement (the work); the ties are given (YtfagjlfnmkfjoaaDoorTie.lean); close each card by the builder's one call (the guide's Derived/Test/ToyasCard.lean, 'card_holds'). Laid BY PROGRAM, IN A SANDBOX (cutbox-door.mjs). By AI agents, Wed Nov 11 2026. No macro, syntax, notation, axiom, sorry.
-/
import Derived.Test.YtfagjlfnmkfjoaaDoorRows
import GoSem.ClaimSeven
namespace Go.Proofs.YtfagjlfnmkfjoaaDoor
namespace Rows

/-- THE TIED CARD OF 'baileelaw23.NumberNext'. -/
def numberNextCard : Claim7 := { stood := { row := numberNextRow, standIns := [], harness := (true, "fb3edb12cd84024e753a466b37f4ed6351b9fc974259cb5d439842452b155b51"), looks := true }, kinds := [], alts := [], laidByText := true, laidKinds := [.sentinel, .sentinel, .sentinel, .sentinel, .sentinel, .sentinel, .sentinel, .sentinel, .sentinel, .sentinel, .sentinel, .sentinel, .sentinel, .sentinel, .sentinel, .sentinel, .sentinel, .sentinel, .sentinel, .sentinel], laidTests := true, laidLooks := .later }
def NumberNextCardSaid : Prop := Claim7.holds Tryd.pinned (.plain (OpenSpec.ofChange numberNextSpec)) numberNextCard

/-- THE SECOND FORM's CARD OF 'baileelaw23.NumberNext'. -/
def numberNextUptoCard : Claim7 := { stood := { row := numberNextUptoRow, standIns := [], harness := (true, "fb3edb12cd84024e753a466b37f4ed6351b9fc974259cb5d439842452b155b51"), looks := true }, kinds := [], alts := [], laidByText := true, laidKinds := [.sentinel, .sentinel, .sentinel, .sentinel, .sentinel, .sentinel, .sentinel, .sentinel, .sentinel, .sentinel, .sentinel, .sentinel, .sentinel, .sentinel, .sentinel, .sentinel, .sentinel, .sentinel, .sentinel, .sentinel], laidTests := true, laidLooks := .later }
def NumberNextUptoCardSaid : Prop := Claim7.holds Tryd.pinned (.plain (OpenSpec.upto numberNextSpec)) numberNextUptoCard
end Rows
end Go.Proofs.YtfagjlfnmkfjoaaDoor
