/-
  NARROWER THAN 'FOR EVERY INPUT', by the rows' own cells (each row's printed sentence says how): ClockWords: laid · ClockWindows: laid.
  DERIVED. THE GIVEN ROWS OF THIS SEAT. 2 by the template 'for every input the law returns true; each argument reads behind the call as it read before'; 0 by the template 'total and deterministic' (their statements: YtkdkecmldekokaaDoorTotals.lean).
  GIVEN WITH THE SEED: the statements are not yours to turn. If you find one false, say at which input.
  Laid BY PROGRAM, IN A SANDBOX (cutbox-rows.mjs): the forced cells as the released guide's own fill.sh prints them over the translation 2b46a7d78127c176… (all of the seat's roots in one cut). By AI agents, Wed Nov 11 2026. No macro, syntax, notation, axiom, sorry.
-/
import Derived.Test.YtkdkecmldekokaaDoorChecked
import GoSem.Claim
import GoSem.ClaimJoined
import GoSem.ClaimMapViews
import Derived.JoinedTies
import Derived.KernelRfl
namespace Go.Proofs.YtkdkecmldekokaaDoor
/- THE CELL 'sum', in the pinned program and in every row, IS THE sha256 OF THE DUMP (.gsa) THAT YtkdkecmldekokaaDoorProg.lean LOADS. Nothing in Lean hashes anything: it is a label: what it is worth is what the hold of that sum in a sandbox is worth. -/
noncomputable def Tryd.pinned : Pinned := { name := "ytkdkecmldekokaadoor", sum := "2b46a7d78127c176b4e9a4cfc695c81a66d43f12111c946f1a55c50536ac9f11", checked := Tryd.checked }
namespace Rows
def none {H : Type} : Left H := { results := [], args := [] }

/- WHAT THE LISTED PACKAGE-LEVEL VARIABLES READ AS WHEN THE CALL BEGINS. Each datum BY PROGRAM (the guide's laid-datum.mjs) off the statement by which the dump's own 'gosem.cut.vars' lays the variable. In a bare row this is a premise. The card (YtkdkecmldekokaaDoorCards.lean) ties it to the program's text. -/
def laid_bailee_api_ErrRange {H : Type} : DataW H := .iface "*errors.errorString" (.ptr (.agg [.lit (.string [97, 32, 110, 117, 109, 98, 101, 114, 32, 105, 115, 32, 111, 117, 116, 32, 111, 102, 32, 105, 116, 115, 32, 114, 97, 110, 103, 101])]))
def laid_bailee_api_ErrSize {H : Type} : DataW H := .iface "*errors.errorString" (.ptr (.agg [.lit (.string [105, 116, 32, 105, 115, 32, 110, 111, 116, 32, 111, 102, 32, 116, 104, 97, 116, 32, 115, 105, 122, 101])]))
def laid_bailee_api_ErrBudget {H : Type} : DataW H := .iface "*errors.errorString" (.ptr (.agg [.lit (.string [110, 111, 116, 104, 105, 110, 103, 32, 111, 102, 32, 116, 104, 101, 32, 107, 105, 110, 100, 32, 105, 115, 32, 108, 101, 102, 116])]))
def laid_bailee_clock_words {H : Type} : DataW H := .agg [.lit (.string [110, 111, 116, 104, 105, 110, 103]), .lit (.string [97, 115, 107]), .lit (.string [97, 103, 97, 105, 110]), .lit (.string [115, 116, 111, 112])]

/-- 'baileelaw26.ClockWords': WHATEVER THE INPUT: true; the input reads as it did. -/
def clockWordsSpec : ChangeSpec := { name := "clockWords", fn := fun _ => fun
  | [d] => { results := [.lit (.bool true)], args := [d] }
  | _ => none }
def clockWordsRow : OpenClaim := { program := "ytkdkecmldekokaadoor", sum := "2b46a7d78127c176b4e9a4cfc695c81a66d43f12111c946f1a55c50536ac9f11", func := "bailee/baileelaw26.ClockWords", spec := "clockWords", named := ["bailee/api.ErrSize", "bailee/api.ErrBudget", "bailee/api.ErrRange", "bailee/clock.words"], apart := false, laid := [("bailee/api.ErrRange", laid_bailee_api_ErrRange), ("bailee/api.ErrSize", laid_bailee_api_ErrSize), ("bailee/api.ErrBudget", laid_bailee_api_ErrBudget), ("bailee/clock.words", laid_bailee_clock_words)] }
def ClockWordsSaid : Prop := clockWordsRow.holds Tryd.pinned (OpenSpec.ofChange clockWordsSpec)

/-- ITS FALSE NEIGHBOUR: 'it returns false'. Refute it at one input. -/
def clockWordsWrong : ChangeSpec := { name := "clockWords", fn := fun _ => fun
  | [d] => { results := [.lit (.bool false)], args := [d] }
  | _ => none }
def ClockWordsWrongFalsely : Prop := clockWordsRow.holds Tryd.pinned (OpenSpec.ofChange clockWordsWrong)

/-- 'baileelaw26.ClockWindows': WHATEVER THE INPUT: true; the input reads as it did. -/
def clockWindowsSpec : ChangeSpec := { name := "clockWindows", fn := fun _ => fun
  | [d1, d2] => { results := [.lit (.bool true)], args := [d1, d2] }
  | _ => none }
def clockWindowsRow : OpenClaim := { program := "ytkdkecmldekokaadoor", sum := "2b46a7d78127c176b4e9a4cfc695c81a66d43f12111c946f1a55c50536ac9f11", func := "bailee/baileelaw26.ClockWindows", spec := "clockWindows", named := ["bailee/api.ErrSize", "bailee/api.ErrBudget", "bailee/api.ErrRange", "bailee/clock.words"], apart := false, laid := [("bailee/api.ErrRange", laid_bailee_api_ErrRange), ("bailee/api.ErrSize", laid_bailee_api_ErrSize), ("bailee/api.ErrBudget", laid_bailee_api_ErrBudget), ("bailee/clock.words", laid_bailee_clock_words)] }
def ClockWindowsSaid : Prop := clockWindowsRow.holds Tryd.pinned (OpenSpec.ofChange clockWindowsSpec)

/-- ITS FALSE NEIGHBOUR: 'it returns false'. Refute it at one input. -/
def clockWindowsWrong : ChangeSpec := { name := "clockWindows", fn := fun _ => fun
  | [d1, d2] => { results := [.lit (.bool false)], args := [d1, d2] }
  | _ => none }
def ClockWindowsWrongFalsely : Prop := clockWindowsRow.holds Tryd.pinned (OpenSpec.ofChange clockWindowsWrong)

/- THE SECOND FORM. 'bulk': how many values and letters a reading holds, each counted each time it is reached (what is shared counts as often as it is met; a slice's spare places count too). A statement '..UptoSaid' is the law's where the arguments, and the package variables that the reading takes, are together of bulk at most 1048576: NARROWER than '..Said'. Prove '..Said' where nothing that the law and all that it calls make is longer than what came in: it says more and counts as full. Else prove '..UptoSaid'. A law counts once. -/
mutual
def uptoBulk {H : Type} : DataW H → Nat
  | .lit (.string bytes) => bytes.length + 1
  | .lit _ => 1
  | .nil => 1
  | .ptr d => uptoBulk d + 1
  | .slice elems spare => uptoBulkAll elems + uptoBulkAll spare + 1
  | .agg parts => uptoBulkAll parts + 1
  | .iface _ d => uptoBulk d + 1
  | .map entries => uptoBulkEntries entries + 1
  | .held _ => 1
def uptoBulkAll {H : Type} : List (DataW H) → Nat
  | [] => 0
  | d :: r => uptoBulk d + uptoBulkAll r
def uptoBulkEntries {H : Type} : List (Lit × DataW H) → Nat
  | [] => 0
  | x :: r => uptoBulkEntry x + uptoBulkEntries r
def uptoBulkEntry {H : Type} : Lit × DataW H → Nat
  | (.string bytes, d) => bytes.length + uptoBulk d + 1
  | (_, d) => uptoBulk d + 1
 end
def uptoSmall : (H : Type) → List (DataW H) → Bool := fun _ ds => decide (uptoBulkAll ds ≤ 1048576)
def OpenSpec.upto (s : _root_.Go.ChangeSpec) : _root_.Go.OpenSpec := { _root_.Go.OpenSpec.ofChange s with cond := some uptoSmall }

/-- 'baileelaw26.ClockWords', WHERE WHAT IT READS IS OF BULK AT MOST 1048576: true; the input reads as it did. -/
def clockWordsUptoRow : OpenClaim := { program := "ytkdkecmldekokaadoor", sum := "2b46a7d78127c176b4e9a4cfc695c81a66d43f12111c946f1a55c50536ac9f11", func := "bailee/baileelaw26.ClockWords", spec := "clockWords", named := ["bailee/api.ErrSize", "bailee/api.ErrBudget", "bailee/api.ErrRange", "bailee/clock.words"], apart := false, laid := [("bailee/api.ErrRange", laid_bailee_api_ErrRange), ("bailee/api.ErrSize", laid_bailee_api_ErrSize), ("bailee/api.ErrBudget", laid_bailee_api_ErrBudget), ("bailee/clock.words", laid_bailee_clock_words)], narrowed := true }
def ClockWordsUptoSaid : Prop := clockWordsUptoRow.holds Tryd.pinned (OpenSpec.upto clockWordsSpec)

/-- 'baileelaw26.ClockWindows', WHERE WHAT IT READS IS OF BULK AT MOST 1048576: true; the input reads as it did. -/
def clockWindowsUptoRow : OpenClaim := { program := "ytkdkecmldekokaadoor", sum := "2b46a7d78127c176b4e9a4cfc695c81a66d43f12111c946f1a55c50536ac9f11", func := "bailee/baileelaw26.ClockWindows", spec := "clockWindows", named := ["bailee/api.ErrSize", "bailee/api.ErrBudget", "bailee/api.ErrRange", "bailee/clock.words"], apart := false, laid := [("bailee/api.ErrRange", laid_bailee_api_ErrRange), ("bailee/api.ErrSize", laid_bailee_api_ErrSize), ("bailee/api.ErrBudget", laid_bailee_api_ErrBudget), ("bailee/clock.words", laid_bailee_clock_words)], narrowed := true }
def ClockWindowsUptoSaid : Prop := clockWindowsUptoRow.holds Tryd.pinned (OpenSpec.upto clockWindowsSpec)

end Rows
end Go.Proofs.YtkdkecmldekokaaDoor
