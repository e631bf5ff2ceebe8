/-
  DERIVED. GIVEN WITH THE SEED: THE CARDS: each row of YtahnicbokdbjdaaDoorRows.lean that lists a variable, with what it lists TIED to the program's text (the seventh form; the later family's looks); each row that meets fmt, with fmt's text TOLD by the authors' own Lean function (tested against real Go, not proved from fmt's source: count such statements apart). THE CARD IS WHAT COUNTS. Prove the row's statement (the work); the ties are given (YtahnicbokdbjdaaDoorTie.lean); close each card by the builder's one call (the guide's Derived/Test/ToyasCard.lean, 'card_holds'). Laid BY PROGRAM, IN A SANDBOX (cutbox-door.mjs). By AI agents, Wed Nov 11 2026. No macro, syntax, notation, axiom, sorry.
-/
import Derived.Test.YtahnicbokdbjdaaDoorRows
import GoSem.ClaimSeven
namespace Go.Proofs.YtahnicbokdbjdaaDoor
namespace Rows

/-- THE TIED CARD OF 'baileelaw20.RecordWords'. -/
def recordWordsCard : Claim7 := { stood := { row := recordWordsRow, standIns := [], harness := (true, "41f9db490351e20d4d7be38e2d346343a20572391cf5ba002e2da6576ae6a9c0"), looks := true }, kinds := [], alts := [], laidByText := true, laidKinds := [.data, .sentinel, .sentinel, .sentinel, .sentinel, .sentinel, .sentinel, .pinned], laidTests := true, laidLooks := .later }
def RecordWordsCardSaid : Prop := Claim7.holds Tryd.pinned (.plain (OpenSpec.ofChange recordWordsSpec)) recordWordsCard

/-- THE TIED CARD OF 'baileelaw20.RecordBytes'. -/
def recordBytesCard : Claim7 := { stood := { row := recordBytesRow, standIns := [], harness := (true, "41f9db490351e20d4d7be38e2d346343a20572391cf5ba002e2da6576ae6a9c0"), looks := true }, kinds := [], alts := [], laidByText := true, laidKinds := [.data, .sentinel, .sentinel, .sentinel, .sentinel, .sentinel, .sentinel, .sentinel, .sentinel, .sentinel, .sentinel, .sentinel, .sentinel, .sentinel, .sentinel, .sentinel, .sentinel, .sentinel, .sentinel, .sentinel, .sentinel, .pinned], laidTests := true, laidLooks := .later }
def RecordBytesCardSaid : Prop := Claim7.holds Tryd.pinned (.plain (OpenSpec.ofChange recordBytesSpec)) recordBytesCard

/-- THE TIED CARD OF 'baileelaw20.RecordParses'. -/
def recordParsesCard : Claim7 := { stood := { row := recordParsesRow, standIns := [], harness := (true, "41f9db490351e20d4d7be38e2d346343a20572391cf5ba002e2da6576ae6a9c0"), looks := true }, kinds := [], alts := [], laidByText := true, laidKinds := [.data, .sentinel, .sentinel, .sentinel, .sentinel, .sentinel, .sentinel, .sentinel, .sentinel, .sentinel, .sentinel, .sentinel, .sentinel, .sentinel, .sentinel, .sentinel, .sentinel, .sentinel, .sentinel, .sentinel, .sentinel, .pinned], laidTests := true, laidLooks := .later }
def RecordParsesCardSaid : Prop := Claim7.holds Tryd.pinned (.plain (OpenSpec.ofChange recordParsesSpec)) recordParsesCard

/-- THE SECOND FORM's CARD OF 'baileelaw20.RecordWords'. -/
def recordWordsUptoCard : Claim7 := { stood := { row := recordWordsUptoRow, standIns := [], harness := (true, "41f9db490351e20d4d7be38e2d346343a20572391cf5ba002e2da6576ae6a9c0"), looks := true }, kinds := [], alts := [], laidByText := true, laidKinds := [.data, .sentinel, .sentinel, .sentinel, .sentinel, .sentinel, .sentinel, .pinned], laidTests := true, laidLooks := .later }
def RecordWordsUptoCardSaid : Prop := Claim7.holds Tryd.pinned (.plain (OpenSpec.upto recordWordsSpec)) recordWordsUptoCard

/-- THE SECOND FORM's CARD OF 'baileelaw20.RecordBytes'. -/
def recordBytesUptoCard : Claim7 := { stood := { row := recordBytesUptoRow, standIns := [], harness := (true, "41f9db490351e20d4d7be38e2d346343a20572391cf5ba002e2da6576ae6a9c0"), looks := true }, kinds := [], alts := [], laidByText := true, laidKinds := [.data, .sentinel, .sentinel, .sentinel, .sentinel, .sentinel, .sentinel, .sentinel, .sentinel, .sentinel, .sentinel, .sentinel, .sentinel, .sentinel, .sentinel, .sentinel, .sentinel, .sentinel, .sentinel, .sentinel, .sentinel, .pinned], laidTests := true, laidLooks := .later }
def RecordBytesUptoCardSaid : Prop := Claim7.holds Tryd.pinned (.plain (OpenSpec.upto recordBytesSpec)) recordBytesUptoCard

/-- THE SECOND FORM's CARD OF 'baileelaw20.RecordParses'. -/
def recordParsesUptoCard : Claim7 := { stood := { row := recordParsesUptoRow, standIns := [], harness := (true, "41f9db490351e20d4d7be38e2d346343a20572391cf5ba002e2da6576ae6a9c0"), looks := true }, kinds := [], alts := [], laidByText := true, laidKinds := [.data, .sentinel, .sentinel, .sentinel, .sentinel, .sentinel, .sentinel, .sentinel, .sentinel, .sentinel, .sentinel, .sentinel, .sentinel, .sentinel, .sentinel, .sentinel, .sentinel, .sentinel, .sentinel, .sentinel, .sentinel, .pinned], laidTests := true, laidLooks := .later }
def RecordParsesUptoCardSaid : Prop := Claim7.holds Tryd.pinned (.plain (OpenSpec.upto recordParsesSpec)) recordParsesUptoCard
end Rows
end Go.Proofs.YtahnicbokdbjdaaDoor
