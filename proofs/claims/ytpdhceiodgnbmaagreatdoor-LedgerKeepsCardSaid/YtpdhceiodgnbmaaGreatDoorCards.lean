/-
  DERIVED. GIVEN WITH THE SEED: THE CARDS: each row of YtpdhceiodgnbmaaGreatDoorRows.lean that lists a variable, with what it lists TIED to the program's text (the seventh form; the later family's looks); each row that meets fmt, with fmt's text TOLD by the authors' own Lean function (tested against real Go, not proved from fmt's source: count such statements apart). THE CARD IS WHAT COUNTS. Prove the row's statement (the work); the ties are given (YtpdhceiodgnbmaaGreatDoorTie.lean); close each card by the builder's one call (the guide's Derived/Test/ToyasCard.lean, 'card_holds'). Laid BY PROGRAM, IN A SANDBOX (cutbox-door.mjs). By AI agents, Wed Nov 11 2026. No macro, syntax, notation, axiom, sorry.
-/
import Derived.Test.YtpdhceiodgnbmaaGreatDoorRows
import GoSem.ClaimSeven
namespace Go.Proofs.YtpdhceiodgnbmaaGreatDoor
namespace Rows

/-- THE TIED CARD OF 'baileelaw21.LedgerReplays'. -/
def ledgerReplaysCard : Claim7 := { stood := { row := ledgerReplaysRow, standIns := [], harness := (true, "a567790188a81a872adf0b024ea7c0007de60d7693d588547ca204ef8e206b24"), looks := true }, kinds := [], alts := [], laidByText := true, laidKinds := [.data, .sentinel, .sentinel, .sentinel, .sentinel, .sentinel, .sentinel, .sentinel, .sentinel, .sentinel, .sentinel, .sentinel, .sentinel, .sentinel, .sentinel, .sentinel, .sentinel, .sentinel, .sentinel, .sentinel, .sentinel, .data, .data, .pinned], laidTests := true, laidLooks := .later }
def LedgerReplaysCardSaid : Prop := Claim7.holds Tryz.pinned (.plain (OpenSpec.ofChange ledgerReplaysSpec)) ledgerReplaysCard

/-- THE TIED CARD OF 'baileelaw21.LedgerFollows'. -/
def ledgerFollowsCard : Claim7 := { stood := { row := ledgerFollowsRow, standIns := [], harness := (true, "a567790188a81a872adf0b024ea7c0007de60d7693d588547ca204ef8e206b24"), looks := true }, kinds := [], alts := [], laidByText := true, laidKinds := [.data, .sentinel, .sentinel, .sentinel, .sentinel, .sentinel, .sentinel, .sentinel, .sentinel, .sentinel, .sentinel, .sentinel, .sentinel, .sentinel, .sentinel, .sentinel, .sentinel, .sentinel, .sentinel, .sentinel, .sentinel, .data, .data, .pinned], laidTests := true, laidLooks := .later }
def LedgerFollowsCardSaid : Prop := Claim7.holds Tryz.pinned (.plain (OpenSpec.ofChange ledgerFollowsSpec)) ledgerFollowsCard

/-- THE TIED CARD OF 'baileelaw21.LedgerSafe'. -/
def ledgerSafeCard : Claim7 := { stood := { row := ledgerSafeRow, standIns := [], harness := (true, "a567790188a81a872adf0b024ea7c0007de60d7693d588547ca204ef8e206b24"), looks := true }, kinds := [], alts := [], laidByText := true, laidKinds := [.data, .data, .data, .sentinel, .sentinel, .sentinel, .sentinel, .sentinel, .sentinel, .sentinel, .sentinel, .sentinel, .sentinel, .sentinel, .sentinel, .sentinel, .sentinel, .sentinel, .sentinel, .sentinel, .sentinel, .sentinel, .sentinel, .data, .data, .pinned], laidTests := true, laidLooks := .later }
def LedgerSafeCardSaid : Prop := Claim7.holds Tryz.pinned (.plain (OpenSpec.ofChange ledgerSafeSpec)) ledgerSafeCard

/-- THE TIED CARD OF 'baileelaw21.LedgerKeeps'. -/
def ledgerKeepsCard : Claim7 := { stood := { row := ledgerKeepsRow, standIns := [], harness := (true, "a567790188a81a872adf0b024ea7c0007de60d7693d588547ca204ef8e206b24"), looks := true }, kinds := [], alts := [], laidByText := true, laidKinds := [.data, .data, .data, .sentinel, .sentinel, .sentinel, .sentinel, .sentinel, .sentinel, .sentinel, .sentinel, .sentinel, .sentinel, .sentinel, .sentinel, .sentinel, .sentinel, .sentinel, .sentinel, .sentinel, .sentinel, .sentinel, .sentinel, .data, .data, .pinned], laidTests := true, laidLooks := .later }
def LedgerKeepsCardSaid : Prop := Claim7.holds Tryz.pinned (.plain (OpenSpec.ofChange ledgerKeepsSpec)) ledgerKeepsCard

/-- THE SECOND FORM's CARD OF 'baileelaw21.LedgerReplays'. -/
def ledgerReplaysUptoCard : Claim7 := { stood := { row := ledgerReplaysUptoRow, standIns := [], harness := (true, "a567790188a81a872adf0b024ea7c0007de60d7693d588547ca204ef8e206b24"), looks := true }, kinds := [], alts := [], laidByText := true, laidKinds := [.data, .sentinel, .sentinel, .sentinel, .sentinel, .sentinel, .sentinel, .sentinel, .sentinel, .sentinel, .sentinel, .sentinel, .sentinel, .sentinel, .sentinel, .sentinel, .sentinel, .sentinel, .sentinel, .sentinel, .sentinel, .data, .data, .pinned], laidTests := true, laidLooks := .later }
def LedgerReplaysUptoCardSaid : Prop := Claim7.holds Tryz.pinned (.plain (OpenSpec.upto ledgerReplaysSpec)) ledgerReplaysUptoCard

/-- THE SECOND FORM's CARD OF 'baileelaw21.LedgerFollows'. -/
def ledgerFollowsUptoCard : Claim7 := { stood := { row := ledgerFollowsUptoRow, standIns := [], harness := (true, "a567790188a81a872adf0b024ea7c0007de60d7693d588547ca204ef8e206b24"), looks := true }, kinds := [], alts := [], laidByText := true, laidKinds := [.data, .sentinel, .sentinel, .sentinel, .sentinel, .sentinel, .sentinel, .sentinel, .sentinel, .sentinel, .sentinel, .sentinel, .sentinel, .sentinel, .sentinel, .sentinel, .sentinel, .sentinel, .sentinel, .sentinel, .sentinel, .data, .data, .pinned], laidTests := true, laidLooks := .later }
def LedgerFollowsUptoCardSaid : Prop := Claim7.holds Tryz.pinned (.plain (OpenSpec.upto ledgerFollowsSpec)) ledgerFollowsUptoCard

/-- THE SECOND FORM's CARD OF 'baileelaw21.LedgerSafe'. -/
def ledgerSafeUptoCard : Claim7 := { stood := { row := ledgerSafeUptoRow, standIns := [], harness := (true, "a567790188a81a872adf0b024ea7c0007de60d7693d588547ca204ef8e206b24"), looks := true }, kinds := [], alts := [], laidByText := true, laidKinds := [.data, .data, .data, .sentinel, .sentinel, .sentinel, .sentinel, .sentinel, .sentinel, .sentinel, .sentinel, .sentinel, .sentinel, .sentinel, .sentinel, .sentinel, .sentinel, .sentinel, .sentinel, .sentinel, .sentinel, .sentinel, .sentinel, .data, .data, .pinned], laidTests := true, laidLooks := .later }
def LedgerSafeUptoCardSaid : Prop := Claim7.holds Tryz.pinned (.plain (OpenSpec.upto ledgerSafeSpec)) ledgerSafeUptoCard

/-- THE SECOND FORM's CARD OF 'baileelaw21.LedgerKeeps'. -/
def ledgerKeepsUptoCard : Claim7 := { stood := { row := ledgerKeepsUptoRow, standIns := [], harness := (true, "a567790188a81a872adf0b024ea7c0007de60d7693d588547ca204ef8e206b24"), looks := true }, kinds := [], alts := [], laidByText := true, laidKinds := [.data, .data, .data, .sentinel, .sentinel, .sentinel, .sentinel, .sentinel, .sentinel, .sentinel, .sentinel, .sentinel, .sentinel, .sentinel, .sentinel, .sentinel, .sentinel, .sentinel, .sentinel, .sentinel, .sentinel, .sentinel, .sentinel, .data, .data, .pinned], laidTests := true, laidLooks := .later }
def LedgerKeepsUptoCardSaid : Prop := Claim7.holds Tryz.pinned (.plain (OpenSpec.upto ledgerKeepsSpec)) ledgerKeepsUptoCard
end Rows
end Go.Proofs.YtpdhceiodgnbmaaGreatDoor
