/-
  DERIVED. GIVEN WITH THE SEED: THE CARDS: each row of YtkdkecmldekokaaDoorRows.lean that lists a variable, with what it lists TIED to the program's text (the seventh form; the later family's looks); each row that meets fmt, with fmt's text TOLD by the authors' own Lean function (tested against real Go, not proved from fmt's source: count such statements apart). THE CARD IS WHAT COUNTS. Prove the row's statement (the work); the ties are given (YtkdkecmldekokaaDoorTie.lean); close each card by the builder's one call (the guide's Derived/Test/ToyasCard.lean, 'card_holds'). Laid BY PROGRAM, IN A SANDBOX (cutbox-door.mjs). By AI agents, Wed Nov 11 2026. No macro, syntax, notation, axiom, sorry.
-/
import Derived.Test.YtkdkecmldekokaaDoorRows
import GoSem.ClaimSeven
namespace Go.Proofs.YtkdkecmldekokaaDoor
namespace Rows

/-- THE TIED CARD OF 'baileelaw26.ClockWords'. -/
def clockWordsCard : Claim7 := { stood := { row := clockWordsRow, standIns := [], harness := (true, "be7c26678e1f5ef9d04c860272c186161af1eb261112b933f4736cde82ae6524"), looks := false }, kinds := [], alts := [], laidByText := true, laidKinds := [.sentinel, .sentinel, .sentinel, .data], laidTests := true, laidLooks := .later }
def ClockWordsCardSaid : Prop := Claim7.holds Tryd.pinned (.plain (OpenSpec.ofChange clockWordsSpec)) clockWordsCard

/-- THE TIED CARD OF 'baileelaw26.ClockWindows'. -/
def clockWindowsCard : Claim7 := { stood := { row := clockWindowsRow, standIns := [], harness := (true, "be7c26678e1f5ef9d04c860272c186161af1eb261112b933f4736cde82ae6524"), looks := false }, kinds := [], alts := [], laidByText := true, laidKinds := [.sentinel, .sentinel, .sentinel, .data], laidTests := true, laidLooks := .later }
def ClockWindowsCardSaid : Prop := Claim7.holds Tryd.pinned (.plain (OpenSpec.ofChange clockWindowsSpec)) clockWindowsCard

/-- THE SECOND FORM's CARD OF 'baileelaw26.ClockWords'. -/
def clockWordsUptoCard : Claim7 := { stood := { row := clockWordsUptoRow, standIns := [], harness := (true, "be7c26678e1f5ef9d04c860272c186161af1eb261112b933f4736cde82ae6524"), looks := false }, kinds := [], alts := [], laidByText := true, laidKinds := [.sentinel, .sentinel, .sentinel, .data], laidTests := true, laidLooks := .later }
def ClockWordsUptoCardSaid : Prop := Claim7.holds Tryd.pinned (.plain (OpenSpec.upto clockWordsSpec)) clockWordsUptoCard

/-- THE SECOND FORM's CARD OF 'baileelaw26.ClockWindows'. -/
def clockWindowsUptoCard : Claim7 := { stood := { row := clockWindowsUptoRow, standIns := [], harness := (true, "be7c26678e1f5ef9d04c860272c186161af1eb261112b933f4736cde82ae6524"), looks := false }, kinds := [], alts := [], laidByText := true, laidKinds := [.sentinel, .sentinel, .sentinel, .data], laidTests := true, laidLooks := .later }
def ClockWindowsUptoCardSaid : Prop := Claim7.holds Tryd.pinned (.plain (OpenSpec.upto clockWindowsSpec)) clockWindowsUptoCard
end Rows
end Go.Proofs.YtkdkecmldekokaaDoor
