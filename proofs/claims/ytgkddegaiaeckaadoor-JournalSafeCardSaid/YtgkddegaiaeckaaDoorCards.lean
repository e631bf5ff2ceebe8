/-
  DERIVED. GIVEN WITH THE SEED: THE CARDS: each row of YtgkddegaiaeckaaDoorRows.lean that lists a variable, with what it lists TIED to the program's text (the seventh form; the later family's looks); each row that meets fmt, with fmt's text TOLD by the authors' own Lean function (tested against real Go, not proved from fmt's source: count such statements apart). THE CARD IS WHAT COUNTS. Prove the row's statement (the work); the ties are given (YtgkddegaiaeckaaDoorTie.lean); close each card by the builder's one call (the guide's Derived/Test/ToyasCard.lean, 'card_holds'). Laid BY PROGRAM, IN A SANDBOX (cutbox-door.mjs). By AI agents, Wed Nov 11 2026. No macro, syntax, notation, axiom, sorry.
-/
import Derived.Test.YtgkddegaiaeckaaDoorRows
import GoSem.ClaimSeven
namespace Go.Proofs.YtgkddegaiaeckaaDoor
namespace Rows

/-- THE TIED CARD OF 'baileelaw19.JournalScans'. -/
def journalScansCard : Claim7 := { stood := { row := journalScansRow, standIns := [], harness := (true, "39845df158f27be999be3a4955ad30741db233c05cd20054f56cfa2f41e1f5b2"), looks := true }, kinds := [], alts := [], laidByText := true, laidKinds := [.data, .data, .sentinel, .sentinel, .sentinel, .sentinel, .sentinel, .sentinel, .data, .data], laidTests := true, laidLooks := .later }
def JournalScansCardSaid : Prop := Claim7.holds Tryd.pinned (.plain (OpenSpec.ofChange journalScansSpec)) journalScansCard

/-- THE TIED CARD OF 'baileelaw19.JournalSafe'. -/
def journalSafeCard : Claim7 := { stood := { row := journalSafeRow, standIns := [], harness := (true, "39845df158f27be999be3a4955ad30741db233c05cd20054f56cfa2f41e1f5b2"), looks := true }, kinds := [], alts := [], laidByText := true, laidKinds := [.data, .data, .sentinel, .sentinel, .sentinel, .sentinel, .sentinel, .sentinel, .data, .data], laidTests := true, laidLooks := .later }
def JournalSafeCardSaid : Prop := Claim7.holds Tryd.pinned (.plain (OpenSpec.ofChange journalSafeSpec)) journalSafeCard

/-- THE TIED CARD OF 'baileelaw19.JournalFaults'. -/
def journalFaultsCard : Claim7 := { stood := { row := journalFaultsRow, standIns := [], harness := (true, "39845df158f27be999be3a4955ad30741db233c05cd20054f56cfa2f41e1f5b2"), looks := true }, kinds := [], alts := [], laidByText := true, laidKinds := [.data, .data, .data, .handle, .sentinel, .sentinel, .sentinel, .sentinel, .sentinel, .sentinel, .sentinel, .sentinel, .sentinel, .sentinel, .sentinel, .sentinel, .sentinel, .sentinel, .sentinel, .sentinel, .sentinel, .sentinel, .sentinel, .sentinel, .data, .data], laidTests := true, laidLooks := .later }
def JournalFaultsCardSaid : Prop := Claim7.holds Tryd.pinned (.plain (OpenSpec.ofChange journalFaultsSpec)) journalFaultsCard

/-- THE SECOND FORM's CARD OF 'baileelaw19.JournalScans'. -/
def journalScansUptoCard : Claim7 := { stood := { row := journalScansUptoRow, standIns := [], harness := (true, "39845df158f27be999be3a4955ad30741db233c05cd20054f56cfa2f41e1f5b2"), looks := true }, kinds := [], alts := [], laidByText := true, laidKinds := [.data, .data, .sentinel, .sentinel, .sentinel, .sentinel, .sentinel, .sentinel, .data, .data], laidTests := true, laidLooks := .later }
def JournalScansUptoCardSaid : Prop := Claim7.holds Tryd.pinned (.plain (OpenSpec.upto journalScansSpec)) journalScansUptoCard

/-- THE SECOND FORM's CARD OF 'baileelaw19.JournalSafe'. -/
def journalSafeUptoCard : Claim7 := { stood := { row := journalSafeUptoRow, standIns := [], harness := (true, "39845df158f27be999be3a4955ad30741db233c05cd20054f56cfa2f41e1f5b2"), looks := true }, kinds := [], alts := [], laidByText := true, laidKinds := [.data, .data, .sentinel, .sentinel, .sentinel, .sentinel, .sentinel, .sentinel, .data, .data], laidTests := true, laidLooks := .later }
def JournalSafeUptoCardSaid : Prop := Claim7.holds Tryd.pinned (.plain (OpenSpec.upto journalSafeSpec)) journalSafeUptoCard

/-- THE SECOND FORM's CARD OF 'baileelaw19.JournalFaults'. -/
def journalFaultsUptoCard : Claim7 := { stood := { row := journalFaultsUptoRow, standIns := [], harness := (true, "39845df158f27be999be3a4955ad30741db233c05cd20054f56cfa2f41e1f5b2"), looks := true }, kinds := [], alts := [], laidByText := true, laidKinds := [.data, .data, .data, .handle, .sentinel, .sentinel, .sentinel, .sentinel, .sentinel, .sentinel, .sentinel, .sentinel, .sentinel, .sentinel, .sentinel, .sentinel, .sentinel, .sentinel, .sentinel, .sentinel, .sentinel, .sentinel, .sentinel, .sentinel, .data, .data], laidTests := true, laidLooks := .later }
def JournalFaultsUptoCardSaid : Prop := Claim7.holds Tryd.pinned (.plain (OpenSpec.upto journalFaultsSpec)) journalFaultsUptoCard
end Rows
end Go.Proofs.YtgkddegaiaeckaaDoor
