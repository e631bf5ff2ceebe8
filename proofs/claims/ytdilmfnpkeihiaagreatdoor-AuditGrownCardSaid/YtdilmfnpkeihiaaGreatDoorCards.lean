/-
  DERIVED. GIVEN WITH THE SEED: THE CARDS: each row of YtdilmfnpkeihiaaGreatDoorRows.lean that lists a variable, with what it lists TIED to the program's text (the seventh form; the later family's looks); each row that meets fmt, with fmt's text TOLD by the authors' own Lean function (tested against real Go, not proved from fmt's source: count such statements apart). THE CARD IS WHAT COUNTS. Prove the row's statement (the work); the ties are given (YtdilmfnpkeihiaaGreatDoorTie.lean); close each card by the builder's one call (the guide's Derived/Test/ToyasCard.lean, 'card_holds'). Laid BY PROGRAM, IN A SANDBOX (cutbox-door.mjs). By AI agents, Wed Nov 11 2026. No macro, syntax, notation, axiom, sorry.
-/
import Derived.Test.YtdilmfnpkeihiaaGreatDoorRows
import GoSem.ClaimSeven
namespace Go.Proofs.YtdilmfnpkeihiaaGreatDoor
namespace Rows

/-- THE TIED CARD OF 'baileelaw36.AuditGrown'. -/
def auditGrownCard : Claim7 := { stood := { row := auditGrownRow, standIns := [], harness := (true, "aee46a54a828b7d3b5110c9769d7b19d4628e7312d437a0166c5e33dee2e3415"), looks := false }, kinds := [], alts := [], laidByText := true, laidKinds := [.data, .sentinel, .sentinel, .sentinel, .sentinel, .sentinel, .sentinel, .sentinel, .sentinel, .sentinel, .sentinel, .sentinel, .sentinel, .sentinel, .sentinel, .data, .data, .pinned], laidTests := true, laidLooks := .later }
def AuditGrownCardSaid : Prop := Claim7.holds Tryz.pinned (.plain (OpenSpec.ofChange auditGrownSpec)) auditGrownCard

/-- THE SECOND FORM's CARD OF 'baileelaw36.AuditGrown'. -/
def auditGrownUptoCard : Claim7 := { stood := { row := auditGrownUptoRow, standIns := [], harness := (true, "aee46a54a828b7d3b5110c9769d7b19d4628e7312d437a0166c5e33dee2e3415"), looks := false }, kinds := [], alts := [], laidByText := true, laidKinds := [.data, .sentinel, .sentinel, .sentinel, .sentinel, .sentinel, .sentinel, .sentinel, .sentinel, .sentinel, .sentinel, .sentinel, .sentinel, .sentinel, .sentinel, .data, .data, .pinned], laidTests := true, laidLooks := .later }
def AuditGrownUptoCardSaid : Prop := Claim7.holds Tryz.pinned (.plain (OpenSpec.upto auditGrownSpec)) auditGrownUptoCard
end Rows
end Go.Proofs.YtdilmfnpkeihiaaGreatDoor
