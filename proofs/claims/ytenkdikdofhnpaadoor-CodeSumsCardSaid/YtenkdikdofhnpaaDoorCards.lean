/-
  DERIVED. GIVEN WITH THE SEED: THE CARDS: each row of YtenkdikdofhnpaaDoorRows.lean that lists a variable, with what it lists TIED to the program's text (the seventh form; the later family's looks); each row that meets fmt, with fmt's text TOLD by the authors' own Lean function (tested against real Go, not proved from fmt's source: count such statements apart). THE CARD IS WHAT COUNTS. Prove the row's statement (the work); the ties are given (YtenkdikdofhnpaaDoorTie.lean); close each card by the builder's one call (the guide's Derived/Test/ToyasCard.lean, 'card_holds'). Laid BY PROGRAM, IN A SANDBOX (cutbox-door.mjs). By AI agents, Wed Nov 11 2026. No macro, syntax, notation, axiom, sorry.
-/
import Derived.Test.YtenkdikdofhnpaaDoorRows
import GoSem.ClaimSeven
namespace Go.Proofs.YtenkdikdofhnpaaDoor
namespace Rows

/-- THE TIED CARD OF 'baileelaw03.CodeApart'. -/
def codeApartCard : Claim7 := { stood := { row := codeApartRow, standIns := [], harness := (true, "a76a9f12c432e43b5ef0948f4d10c7147913fce8d7f62f7baba9c881a331fa12"), looks := true }, kinds := [], alts := [], laidByText := true, laidKinds := [.sentinel], laidTests := true, laidLooks := .later }
def CodeApartCardSaid : Prop := Claim7.holds Tryd.pinned (.plain (OpenSpec.ofChange codeApartSpec)) codeApartCard

/-- THE TIED CARD OF 'baileelaw03.CodeSyndromes'. -/
def codeSyndromesCard : Claim7 := { stood := { row := codeSyndromesRow, standIns := [], harness := (true, "a76a9f12c432e43b5ef0948f4d10c7147913fce8d7f62f7baba9c881a331fa12"), looks := true }, kinds := [], alts := [], laidByText := true, laidKinds := [.sentinel, .sentinel, .sentinel, .sentinel, .sentinel, .sentinel, .sentinel, .sentinel, .sentinel, .sentinel, .sentinel, .sentinel, .sentinel, .sentinel, .sentinel, .sentinel, .sentinel, .sentinel, .sentinel, .sentinel], laidTests := true, laidLooks := .later }
def CodeSyndromesCardSaid : Prop := Claim7.holds Tryd.pinned (.plain (OpenSpec.ofChange codeSyndromesSpec)) codeSyndromesCard

/-- THE TIED CARD OF 'baileelaw03.CodeSums'. -/
def codeSumsCard : Claim7 := { stood := { row := codeSumsRow, standIns := [], harness := (true, "a76a9f12c432e43b5ef0948f4d10c7147913fce8d7f62f7baba9c881a331fa12"), looks := true }, kinds := [], alts := [], laidByText := true, laidKinds := [.sentinel], laidTests := true, laidLooks := .later }
def CodeSumsCardSaid : Prop := Claim7.holds Tryd.pinned (.plain (OpenSpec.ofChange codeSumsSpec)) codeSumsCard

/-- THE TIED CARD OF 'baileelaw03.CodeWords'. -/
def codeWordsCard : Claim7 := { stood := { row := codeWordsRow, standIns := [], harness := (true, "a76a9f12c432e43b5ef0948f4d10c7147913fce8d7f62f7baba9c881a331fa12"), looks := true }, kinds := [], alts := [], laidByText := true, laidKinds := [.sentinel, .sentinel, .sentinel, .sentinel, .sentinel, .sentinel, .sentinel, .sentinel, .sentinel, .sentinel, .sentinel, .sentinel, .sentinel, .sentinel, .sentinel, .sentinel, .sentinel, .sentinel, .sentinel, .sentinel], laidTests := true, laidLooks := .later }
def CodeWordsCardSaid : Prop := Claim7.holds Tryd.pinned (.plain (OpenSpec.ofChange codeWordsSpec)) codeWordsCard

/-- THE SECOND FORM's CARD OF 'baileelaw03.CodeApart'. -/
def codeApartUptoCard : Claim7 := { stood := { row := codeApartUptoRow, standIns := [], harness := (true, "a76a9f12c432e43b5ef0948f4d10c7147913fce8d7f62f7baba9c881a331fa12"), looks := true }, kinds := [], alts := [], laidByText := true, laidKinds := [.sentinel], laidTests := true, laidLooks := .later }
def CodeApartUptoCardSaid : Prop := Claim7.holds Tryd.pinned (.plain (OpenSpec.upto codeApartSpec)) codeApartUptoCard

/-- THE SECOND FORM's CARD OF 'baileelaw03.CodeSyndromes'. -/
def codeSyndromesUptoCard : Claim7 := { stood := { row := codeSyndromesUptoRow, standIns := [], harness := (true, "a76a9f12c432e43b5ef0948f4d10c7147913fce8d7f62f7baba9c881a331fa12"), looks := true }, kinds := [], alts := [], laidByText := true, laidKinds := [.sentinel, .sentinel, .sentinel, .sentinel, .sentinel, .sentinel, .sentinel, .sentinel, .sentinel, .sentinel, .sentinel, .sentinel, .sentinel, .sentinel, .sentinel, .sentinel, .sentinel, .sentinel, .sentinel, .sentinel], laidTests := true, laidLooks := .later }
def CodeSyndromesUptoCardSaid : Prop := Claim7.holds Tryd.pinned (.plain (OpenSpec.upto codeSyndromesSpec)) codeSyndromesUptoCard

/-- THE SECOND FORM's CARD OF 'baileelaw03.CodeSums'. -/
def codeSumsUptoCard : Claim7 := { stood := { row := codeSumsUptoRow, standIns := [], harness := (true, "a76a9f12c432e43b5ef0948f4d10c7147913fce8d7f62f7baba9c881a331fa12"), looks := true }, kinds := [], alts := [], laidByText := true, laidKinds := [.sentinel], laidTests := true, laidLooks := .later }
def CodeSumsUptoCardSaid : Prop := Claim7.holds Tryd.pinned (.plain (OpenSpec.upto codeSumsSpec)) codeSumsUptoCard

/-- THE SECOND FORM's CARD OF 'baileelaw03.CodeWords'. -/
def codeWordsUptoCard : Claim7 := { stood := { row := codeWordsUptoRow, standIns := [], harness := (true, "a76a9f12c432e43b5ef0948f4d10c7147913fce8d7f62f7baba9c881a331fa12"), looks := true }, kinds := [], alts := [], laidByText := true, laidKinds := [.sentinel, .sentinel, .sentinel, .sentinel, .sentinel, .sentinel, .sentinel, .sentinel, .sentinel, .sentinel, .sentinel, .sentinel, .sentinel, .sentinel, .sentinel, .sentinel, .sentinel, .sentinel, .sentinel, .sentinel], laidTests := true, laidLooks := .later }
def CodeWordsUptoCardSaid : Prop := Claim7.holds Tryd.pinned (.plain (OpenSpec.upto codeWordsSpec)) codeWordsUptoCard
end Rows
end Go.Proofs.YtenkdikdofhnpaaDoor
