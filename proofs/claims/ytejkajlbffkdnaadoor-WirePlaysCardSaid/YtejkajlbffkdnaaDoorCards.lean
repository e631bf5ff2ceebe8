/-
  DERIVED. GIVEN WITH THE SEED: THE CARDS: each row of YtejkajlbffkdnaaDoorRows.lean that lists a variable, with what it lists TIED to the program's text (the seventh form; the later family's looks); each row that meets fmt, with fmt's text TOLD by the authors' own Lean function (tested against real Go, not proved from fmt's source: count such statements apart). THE CARD IS WHAT COUNTS. Prove the row's statement (the work); the ties are given (YtejkajlbffkdnaaDoorTie.lean); close each card by the builder's one call (the guide's Derived/Test/ToyasCard.lean, 'card_holds'). Laid BY PROGRAM, IN A SANDBOX (cutbox-door.mjs). By AI agents, Wed Nov 11 2026. No macro, syntax, notation, axiom, sorry.
-/
import Derived.Test.YtejkajlbffkdnaaDoorRows
import GoSem.ClaimSeven
namespace Go.Proofs.YtejkajlbffkdnaaDoor
namespace Rows

/-- THE TIED CARD OF 'baileelaw24.WireCounts'. -/
def wireCountsCard : Claim7 := { stood := { row := wireCountsRow, standIns := [], harness := (true, "ad7e69926730845ff369563fa9903aad3bb975a95ba07f18d5ccce8dd372ebb7"), looks := true }, kinds := [], alts := [], laidByText := true, laidKinds := [.sentinel, .sentinel, .sentinel, .sentinel, .sentinel], laidTests := true, laidLooks := .later }
def WireCountsCardSaid : Prop := Claim7.holds Tryd.pinned (.plain (OpenSpec.ofChange wireCountsSpec)) wireCountsCard

/-- THE TIED CARD OF 'baileelaw24.WirePlays'. -/
def wirePlaysCard : Claim7 := { stood := { row := wirePlaysRow, standIns := [], harness := (true, "ad7e69926730845ff369563fa9903aad3bb975a95ba07f18d5ccce8dd372ebb7"), looks := true }, kinds := [], alts := [], laidByText := true, laidKinds := [.sentinel, .sentinel, .sentinel, .sentinel, .sentinel, .sentinel, .sentinel, .sentinel, .sentinel, .sentinel, .sentinel, .sentinel, .sentinel, .sentinel, .sentinel, .sentinel, .sentinel, .sentinel, .sentinel, .sentinel], laidTests := true, laidLooks := .later }
def WirePlaysCardSaid : Prop := Claim7.holds Tryd.pinned (.plain (OpenSpec.ofChange wirePlaysSpec)) wirePlaysCard

/-- THE SECOND FORM's CARD OF 'baileelaw24.WireCounts'. -/
def wireCountsUptoCard : Claim7 := { stood := { row := wireCountsUptoRow, standIns := [], harness := (true, "ad7e69926730845ff369563fa9903aad3bb975a95ba07f18d5ccce8dd372ebb7"), looks := true }, kinds := [], alts := [], laidByText := true, laidKinds := [.sentinel, .sentinel, .sentinel, .sentinel, .sentinel], laidTests := true, laidLooks := .later }
def WireCountsUptoCardSaid : Prop := Claim7.holds Tryd.pinned (.plain (OpenSpec.upto wireCountsSpec)) wireCountsUptoCard

/-- THE SECOND FORM's CARD OF 'baileelaw24.WirePlays'. -/
def wirePlaysUptoCard : Claim7 := { stood := { row := wirePlaysUptoRow, standIns := [], harness := (true, "ad7e69926730845ff369563fa9903aad3bb975a95ba07f18d5ccce8dd372ebb7"), looks := true }, kinds := [], alts := [], laidByText := true, laidKinds := [.sentinel, .sentinel, .sentinel, .sentinel, .sentinel, .sentinel, .sentinel, .sentinel, .sentinel, .sentinel, .sentinel, .sentinel, .sentinel, .sentinel, .sentinel, .sentinel, .sentinel, .sentinel, .sentinel, .sentinel], laidTests := true, laidLooks := .later }
def WirePlaysUptoCardSaid : Prop := Claim7.holds Tryd.pinned (.plain (OpenSpec.upto wirePlaysSpec)) wirePlaysUptoCard
end Rows
end Go.Proofs.YtejkajlbffkdnaaDoor
