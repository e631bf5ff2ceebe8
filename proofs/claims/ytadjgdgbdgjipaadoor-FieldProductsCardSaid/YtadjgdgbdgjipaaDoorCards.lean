/-
  DERIVED. GIVEN WITH THE SEED: THE CARDS: each row of YtadjgdgbdgjipaaDoorRows.lean that lists a variable, with what it lists TIED to the program's text (the seventh form; the later family's looks); each row that meets fmt, with fmt's text TOLD by the authors' own Lean function (tested against real Go, not proved from fmt's source: count such statements apart). THE CARD IS WHAT COUNTS. Prove the row's statement (the work); the ties are given (YtadjgdgbdgjipaaDoorTie.lean); close each card by the builder's one call (the guide's Derived/Test/ToyasCard.lean, 'card_holds'). Laid BY PROGRAM, IN A SANDBOX (cutbox-door.mjs). By AI agents, Wed Nov 11 2026. No macro, syntax, notation, axiom, sorry.
-/
import Derived.Test.YtadjgdgbdgjipaaDoorRows
import GoSem.ClaimSeven
namespace Go.Proofs.YtadjgdgbdgjipaaDoor
namespace Rows

/-- THE TIED CARD OF 'baileelaw01.FieldRules'. -/
def fieldRulesCard : Claim7 := { stood := { row := fieldRulesRow, standIns := [], harness := (true, "fe1c4082fcd632a63874f558085580170b466b6c231a3b3006c97f324b6adaca"), looks := true }, kinds := [], alts := [], laidByText := true, laidKinds := [.sentinel], laidTests := true, laidLooks := .later }
def FieldRulesCardSaid : Prop := Claim7.holds Tryd.pinned (.plain (OpenSpec.ofChange fieldRulesSpec)) fieldRulesCard

/-- THE TIED CARD OF 'baileelaw01.FieldOrder'. -/
def fieldOrderCard : Claim7 := { stood := { row := fieldOrderRow, standIns := [], harness := (true, "fe1c4082fcd632a63874f558085580170b466b6c231a3b3006c97f324b6adaca"), looks := true }, kinds := [], alts := [], laidByText := true, laidKinds := [.sentinel], laidTests := true, laidLooks := .later }
def FieldOrderCardSaid : Prop := Claim7.holds Tryd.pinned (.plain (OpenSpec.ofChange fieldOrderSpec)) fieldOrderCard

/-- THE TIED CARD OF 'baileelaw01.FieldFrobenius'. -/
def fieldFrobeniusCard : Claim7 := { stood := { row := fieldFrobeniusRow, standIns := [], harness := (true, "fe1c4082fcd632a63874f558085580170b466b6c231a3b3006c97f324b6adaca"), looks := true }, kinds := [], alts := [], laidByText := true, laidKinds := [.sentinel], laidTests := true, laidLooks := .later }
def FieldFrobeniusCardSaid : Prop := Claim7.holds Tryd.pinned (.plain (OpenSpec.ofChange fieldFrobeniusSpec)) fieldFrobeniusCard

/-- THE TIED CARD OF 'baileelaw01.FieldPowers'. -/
def fieldPowersCard : Claim7 := { stood := { row := fieldPowersRow, standIns := [], harness := (true, "fe1c4082fcd632a63874f558085580170b466b6c231a3b3006c97f324b6adaca"), looks := true }, kinds := [], alts := [], laidByText := true, laidKinds := [.sentinel, .sentinel, .sentinel, .sentinel, .sentinel, .sentinel, .sentinel, .sentinel, .sentinel, .sentinel, .sentinel, .sentinel, .sentinel, .sentinel, .sentinel, .sentinel, .sentinel, .sentinel, .sentinel, .sentinel], laidTests := true, laidLooks := .later }
def FieldPowersCardSaid : Prop := Claim7.holds Tryd.pinned (.plain (OpenSpec.ofChange fieldPowersSpec)) fieldPowersCard

/-- THE TIED CARD OF 'baileelaw01.FieldProducts'. -/
def fieldProductsCard : Claim7 := { stood := { row := fieldProductsRow, standIns := [], harness := (true, "fe1c4082fcd632a63874f558085580170b466b6c231a3b3006c97f324b6adaca"), looks := true }, kinds := [], alts := [], laidByText := true, laidKinds := [.sentinel, .sentinel, .sentinel, .sentinel, .sentinel, .sentinel, .sentinel, .sentinel, .sentinel, .sentinel, .sentinel, .sentinel, .sentinel, .sentinel, .sentinel, .sentinel, .sentinel, .sentinel, .sentinel, .sentinel], laidTests := true, laidLooks := .later }
def FieldProductsCardSaid : Prop := Claim7.holds Tryd.pinned (.plain (OpenSpec.ofChange fieldProductsSpec)) fieldProductsCard

/-- THE SECOND FORM's CARD OF 'baileelaw01.FieldRules'. -/
def fieldRulesUptoCard : Claim7 := { stood := { row := fieldRulesUptoRow, standIns := [], harness := (true, "fe1c4082fcd632a63874f558085580170b466b6c231a3b3006c97f324b6adaca"), looks := true }, kinds := [], alts := [], laidByText := true, laidKinds := [.sentinel], laidTests := true, laidLooks := .later }
def FieldRulesUptoCardSaid : Prop := Claim7.holds Tryd.pinned (.plain (OpenSpec.upto fieldRulesSpec)) fieldRulesUptoCard

/-- THE SECOND FORM's CARD OF 'baileelaw01.FieldOrder'. -/
def fieldOrderUptoCard : Claim7 := { stood := { row := fieldOrderUptoRow, standIns := [], harness := (true, "fe1c4082fcd632a63874f558085580170b466b6c231a3b3006c97f324b6adaca"), looks := true }, kinds := [], alts := [], laidByText := true, laidKinds := [.sentinel], laidTests := true, laidLooks := .later }
def FieldOrderUptoCardSaid : Prop := Claim7.holds Tryd.pinned (.plain (OpenSpec.upto fieldOrderSpec)) fieldOrderUptoCard

/-- THE SECOND FORM's CARD OF 'baileelaw01.FieldFrobenius'. -/
def fieldFrobeniusUptoCard : Claim7 := { stood := { row := fieldFrobeniusUptoRow, standIns := [], harness := (true, "fe1c4082fcd632a63874f558085580170b466b6c231a3b3006c97f324b6adaca"), looks := true }, kinds := [], alts := [], laidByText := true, laidKinds := [.sentinel], laidTests := true, laidLooks := .later }
def FieldFrobeniusUptoCardSaid : Prop := Claim7.holds Tryd.pinned (.plain (OpenSpec.upto fieldFrobeniusSpec)) fieldFrobeniusUptoCard

/-- THE SECOND FORM's CARD OF 'baileelaw01.FieldPowers'. -/
def fieldPowersUptoCard : Claim7 := { stood := { row := fieldPowersUptoRow, standIns := [], harness := (true, "fe1c4082fcd632a63874f558085580170b466b6c231a3b3006c97f324b6adaca"), looks := true }, kinds := [], alts := [], laidByText := true, laidKinds := [.sentinel, .sentinel, .sentinel, .sentinel, .sentinel, .sentinel, .sentinel, .sentinel, .sentinel, .sentinel, .sentinel, .sentinel, .sentinel, .sentinel, .sentinel, .sentinel, .sentinel, .sentinel, .sentinel, .sentinel], laidTests := true, laidLooks := .later }
def FieldPowersUptoCardSaid : Prop := Claim7.holds Tryd.pinned (.plain (OpenSpec.upto fieldPowersSpec)) fieldPowersUptoCard

/-- THE SECOND FORM's CARD OF 'baileelaw01.FieldProducts'. -/
def fieldProductsUptoCard : Claim7 := { stood := { row := fieldProductsUptoRow, standIns := [], harness := (true, "fe1c4082fcd632a63874f558085580170b466b6c231a3b3006c97f324b6adaca"), looks := true }, kinds := [], alts := [], laidByText := true, laidKinds := [.sentinel, .sentinel, .sentinel, .sentinel, .sentinel, .sentinel, .sentinel, .sentinel, .sentinel, .sentinel, .sentinel, .sentinel, .sentinel, .sentinel, .sentinel, .sentinel, .sentinel, .sentinel, .sentinel, .sentinel], laidTests := true, laidLooks := .later }
def FieldProductsUptoCardSaid : Prop := Claim7.holds Tryd.pinned (.plain (OpenSpec.upto fieldProductsSpec)) fieldProductsUptoCard
end Rows
end Go.Proofs.YtadjgdgbdgjipaaDoor
