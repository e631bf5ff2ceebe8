/-
  DERIVED. GIVEN WITH THE SEED: THE CARDS: each row of YtkenakcipdkdbaaDoorRows.lean that lists a variable, with what it lists TIED to the program's text (the seventh form; the later family's looks); each row that meets fmt, with fmt's text TOLD by the authors' own Lean function (tested against real Go, not proved from fmt's source: count such statements apart). THE CARD IS WHAT COUNTS. Prove the row's statement (the work); the ties are given (YtkenakcipdkdbaaDoorTie.lean); close each card by the builder's one call (the guide's Derived/Test/ToyasCard.lean, 'card_holds'). Laid BY PROGRAM, IN A SANDBOX (cutbox-door.mjs). By AI agents, Wed Nov 11 2026. No macro, syntax, notation, axiom, sorry.
-/
import Derived.Test.YtkenakcipdkdbaaDoorRows
import GoSem.ClaimSeven
namespace Go.Proofs.YtkenakcipdkdbaaDoor
namespace Rows

/-- THE TIED CARD OF 'baileelaw10.StreamTwice'. -/
def streamTwiceCard : Claim7 := { stood := { row := streamTwiceRow, standIns := [], harness := (true, "bb9a040be6f6f51b412518f32c619b8de0784f77630f08c938a58ac235625628"), looks := true }, kinds := [], alts := [], laidByText := true, laidKinds := [.sentinel, .sentinel, .data, .data], laidTests := true, laidLooks := .later }
def StreamTwiceCardSaid : Prop := Claim7.holds Tryd.pinned (.plain (OpenSpec.ofChange streamTwiceSpec)) streamTwiceCard

/-- THE TIED CARD OF 'baileelaw10.StreamMasks'. -/
def streamMasksCard : Claim7 := { stood := { row := streamMasksRow, standIns := [], harness := (true, "bb9a040be6f6f51b412518f32c619b8de0784f77630f08c938a58ac235625628"), looks := true }, kinds := [], alts := [], laidByText := true, laidKinds := [.data, .data, .sentinel, .sentinel, .sentinel, .sentinel, .sentinel, .sentinel, .sentinel, .sentinel, .sentinel, .sentinel, .sentinel, .sentinel, .sentinel, .sentinel, .sentinel, .sentinel, .sentinel, .sentinel, .sentinel, .sentinel, .data, .data], laidTests := true, laidLooks := .later }
def StreamMasksCardSaid : Prop := Claim7.holds Tryd.pinned (.plain (OpenSpec.ofChange streamMasksSpec)) streamMasksCard

/-- THE TIED CARD OF 'baileelaw10.StreamBlocks'. -/
def streamBlocksCard : Claim7 := { stood := { row := streamBlocksRow, standIns := [], harness := (true, "bb9a040be6f6f51b412518f32c619b8de0784f77630f08c938a58ac235625628"), looks := true }, kinds := [], alts := [], laidByText := true, laidKinds := [.data, .data, .sentinel, .sentinel, .sentinel, .sentinel, .sentinel, .sentinel, .sentinel, .sentinel, .sentinel, .sentinel, .sentinel, .sentinel, .sentinel, .sentinel, .sentinel, .sentinel, .sentinel, .sentinel, .sentinel, .sentinel, .data, .data], laidTests := true, laidLooks := .later }
def StreamBlocksCardSaid : Prop := Claim7.holds Tryd.pinned (.plain (OpenSpec.ofChange streamBlocksSpec)) streamBlocksCard

/-- THE SECOND FORM's CARD OF 'baileelaw10.StreamTwice'. -/
def streamTwiceUptoCard : Claim7 := { stood := { row := streamTwiceUptoRow, standIns := [], harness := (true, "bb9a040be6f6f51b412518f32c619b8de0784f77630f08c938a58ac235625628"), looks := true }, kinds := [], alts := [], laidByText := true, laidKinds := [.sentinel, .sentinel, .data, .data], laidTests := true, laidLooks := .later }
def StreamTwiceUptoCardSaid : Prop := Claim7.holds Tryd.pinned (.plain (OpenSpec.upto streamTwiceSpec)) streamTwiceUptoCard

/-- THE SECOND FORM's CARD OF 'baileelaw10.StreamMasks'. -/
def streamMasksUptoCard : Claim7 := { stood := { row := streamMasksUptoRow, standIns := [], harness := (true, "bb9a040be6f6f51b412518f32c619b8de0784f77630f08c938a58ac235625628"), looks := true }, kinds := [], alts := [], laidByText := true, laidKinds := [.data, .data, .sentinel, .sentinel, .sentinel, .sentinel, .sentinel, .sentinel, .sentinel, .sentinel, .sentinel, .sentinel, .sentinel, .sentinel, .sentinel, .sentinel, .sentinel, .sentinel, .sentinel, .sentinel, .sentinel, .sentinel, .data, .data], laidTests := true, laidLooks := .later }
def StreamMasksUptoCardSaid : Prop := Claim7.holds Tryd.pinned (.plain (OpenSpec.upto streamMasksSpec)) streamMasksUptoCard

/-- THE SECOND FORM's CARD OF 'baileelaw10.StreamBlocks'. -/
def streamBlocksUptoCard : Claim7 := { stood := { row := streamBlocksUptoRow, standIns := [], harness := (true, "bb9a040be6f6f51b412518f32c619b8de0784f77630f08c938a58ac235625628"), looks := true }, kinds := [], alts := [], laidByText := true, laidKinds := [.data, .data, .sentinel, .sentinel, .sentinel, .sentinel, .sentinel, .sentinel, .sentinel, .sentinel, .sentinel, .sentinel, .sentinel, .sentinel, .sentinel, .sentinel, .sentinel, .sentinel, .sentinel, .sentinel, .sentinel, .sentinel, .data, .data], laidTests := true, laidLooks := .later }
def StreamBlocksUptoCardSaid : Prop := Claim7.holds Tryd.pinned (.plain (OpenSpec.upto streamBlocksSpec)) streamBlocksUptoCard
end Rows
end Go.Proofs.YtkenakcipdkdbaaDoor
