/-
  DERIVED. GIVEN WITH THE SEED: THE CARDS: each row of YtkoeejpiaffmfaaDoorRows.lean that lists a variable, with what it lists TIED to the program's text (the seventh form; the later family's looks); each row that meets fmt, with fmt's text TOLD by the authors' own Lean function (tested against real Go, not proved from fmt's source: count such statements apart). THE CARD IS WHAT COUNTS. Prove the row's statement (the work); the ties are given (YtkoeejpiaffmfaaDoorTie.lean); close each card by the builder's one call (the guide's Derived/Test/ToyasCard.lean, 'card_holds'). Laid BY PROGRAM, IN A SANDBOX (cutbox-door.mjs). By AI agents, Wed Nov 11 2026. No macro, syntax, notation, axiom, sorry.
-/
import Derived.Test.YtkoeejpiaffmfaaDoorRows
import GoSem.ClaimSeven
namespace Go.Proofs.YtkoeejpiaffmfaaDoor
namespace Rows

/-- THE TIED CARD OF 'baileelaw02.PolyRemainder'. -/
def polyRemainderCard : Claim7 := { stood := { row := polyRemainderRow, standIns := [], harness := (true, "6ebce770e6061c934d4029f12ba0d1d77ad913541b33916f594b1d6d4dce8e1b"), looks := true }, kinds := [], alts := [], laidByText := true, laidKinds := [.sentinel], laidTests := true, laidLooks := .later }
def PolyRemainderCardSaid : Prop := Claim7.holds Tryd.pinned (.plain (OpenSpec.ofChange polyRemainderSpec)) polyRemainderCard

/-- THE TIED CARD OF 'baileelaw02.PolyDivides'. -/
def polyDividesCard : Claim7 := { stood := { row := polyDividesRow, standIns := [], harness := (true, "6ebce770e6061c934d4029f12ba0d1d77ad913541b33916f594b1d6d4dce8e1b"), looks := true }, kinds := [], alts := [], laidByText := true, laidKinds := [.sentinel, .sentinel, .sentinel, .sentinel, .sentinel, .sentinel, .sentinel, .sentinel, .sentinel, .sentinel, .sentinel, .sentinel, .sentinel, .sentinel, .sentinel, .sentinel, .sentinel, .sentinel, .sentinel, .sentinel], laidTests := true, laidLooks := .later }
def PolyDividesCardSaid : Prop := Claim7.holds Tryd.pinned (.plain (OpenSpec.ofChange polyDividesSpec)) polyDividesCard

/-- THE SECOND FORM's CARD OF 'baileelaw02.PolyRemainder'. -/
def polyRemainderUptoCard : Claim7 := { stood := { row := polyRemainderUptoRow, standIns := [], harness := (true, "6ebce770e6061c934d4029f12ba0d1d77ad913541b33916f594b1d6d4dce8e1b"), looks := true }, kinds := [], alts := [], laidByText := true, laidKinds := [.sentinel], laidTests := true, laidLooks := .later }
def PolyRemainderUptoCardSaid : Prop := Claim7.holds Tryd.pinned (.plain (OpenSpec.upto polyRemainderSpec)) polyRemainderUptoCard

/-- THE SECOND FORM's CARD OF 'baileelaw02.PolyDivides'. -/
def polyDividesUptoCard : Claim7 := { stood := { row := polyDividesUptoRow, standIns := [], harness := (true, "6ebce770e6061c934d4029f12ba0d1d77ad913541b33916f594b1d6d4dce8e1b"), looks := true }, kinds := [], alts := [], laidByText := true, laidKinds := [.sentinel, .sentinel, .sentinel, .sentinel, .sentinel, .sentinel, .sentinel, .sentinel, .sentinel, .sentinel, .sentinel, .sentinel, .sentinel, .sentinel, .sentinel, .sentinel, .sentinel, .sentinel, .sentinel, .sentinel], laidTests := true, laidLooks := .later }
def PolyDividesUptoCardSaid : Prop := Claim7.holds Tryd.pinned (.plain (OpenSpec.upto polyDividesSpec)) polyDividesUptoCard
end Rows
end Go.Proofs.YtkoeejpiaffmfaaDoor
