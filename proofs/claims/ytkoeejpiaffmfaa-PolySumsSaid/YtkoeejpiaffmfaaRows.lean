/-
  No cell of these rows narrows 'for every input' (looked for: loops, veiled, ifaces, maps, wideKeys, modest, calm, conditions, laid).
  DERIVED. THE GIVEN ROWS OF THIS SEAT. 5 by the template 'for every input the law returns true; each argument reads behind the call as it read before'; 0 by the template 'total and deterministic' (their statements: YtkoeejpiaffmfaaTotals.lean).
  GIVEN WITH THE SEED: the statements are not yours to turn. If you find one false, say at which input.
  Laid BY PROGRAM, IN A SANDBOX (cutbox-rows.mjs): the forced cells as the released guide's own fill.sh prints them over the translation 11cd2dfac6063451… (all of the seat's roots in one cut). By AI agents, Wed Nov 11 2026. No macro, syntax, notation, axiom, sorry.
-/
import Derived.Test.YtkoeejpiaffmfaaChecked
import GoSem.Claim
import GoSem.ClaimJoined
import GoSem.ClaimMapViews
import Derived.JoinedTies
import Derived.KernelRfl
namespace Go.Proofs.Ytkoeejpiaffmfaa
/- THE CELL 'sum', in the pinned program and in every row, IS THE sha256 OF THE DUMP (.gsa) THAT YtkoeejpiaffmfaaProg.lean LOADS. Nothing in Lean hashes anything: it is a label: what it is worth is what the hold of that sum in a sandbox is worth. -/
noncomputable def Try.pinned : Pinned := { name := "ytkoeejpiaffmfaa", sum := "11cd2dfac60634510c9885f0260bd9a3cf12d21a62a2863e42e387d1f723ee90", checked := Try.checked }
namespace Rows
def none {H : Type} : Left H := { results := [], args := [] }

/-- 'baileelaw02.PolyRoots': WHATEVER THE INPUT: true; the input reads as it did. -/
def polyRootsSpec : ChangeSpec := { name := "polyRoots", fn := fun _ => fun
  | [d1, d2] => { results := [.lit (.bool true)], args := [d1, d2] }
  | _ => none }
def polyRootsRow : OpenClaim := { program := "ytkoeejpiaffmfaa", sum := "11cd2dfac60634510c9885f0260bd9a3cf12d21a62a2863e42e387d1f723ee90", func := "bailee/baileelaw02.PolyRoots", spec := "polyRoots", unfollowed := true, recurses := true, apart := false }
def PolyRootsSaid : Prop := polyRootsRow.holds Try.pinned (OpenSpec.ofChange polyRootsSpec)

/-- ITS FALSE NEIGHBOUR: 'it returns false'. Refute it at one input. -/
def polyRootsWrong : ChangeSpec := { name := "polyRoots", fn := fun _ => fun
  | [d1, d2] => { results := [.lit (.bool false)], args := [d1, d2] }
  | _ => none }
def PolyRootsWrongFalsely : Prop := polyRootsRow.holds Try.pinned (OpenSpec.ofChange polyRootsWrong)

/-- 'baileelaw02.PolyLeibniz': WHATEVER THE INPUT: true; the input reads as it did. -/
def polyLeibnizSpec : ChangeSpec := { name := "polyLeibniz", fn := fun _ => fun
  | [d1, d2] => { results := [.lit (.bool true)], args := [d1, d2] }
  | _ => none }
def polyLeibnizRow : OpenClaim := { program := "ytkoeejpiaffmfaa", sum := "11cd2dfac60634510c9885f0260bd9a3cf12d21a62a2863e42e387d1f723ee90", func := "bailee/baileelaw02.PolyLeibniz", spec := "polyLeibniz", unfollowed := true, recurses := true, apart := false }
def PolyLeibnizSaid : Prop := polyLeibnizRow.holds Try.pinned (OpenSpec.ofChange polyLeibnizSpec)

/-- ITS FALSE NEIGHBOUR: 'it returns false'. Refute it at one input. -/
def polyLeibnizWrong : ChangeSpec := { name := "polyLeibniz", fn := fun _ => fun
  | [d1, d2] => { results := [.lit (.bool false)], args := [d1, d2] }
  | _ => none }
def PolyLeibnizWrongFalsely : Prop := polyLeibnizRow.holds Try.pinned (OpenSpec.ofChange polyLeibnizWrong)

/-- 'baileelaw02.PolySums': WHATEVER THE INPUT: true; the input reads as it did. -/
def polySumsSpec : ChangeSpec := { name := "polySums", fn := fun _ => fun
  | [d1, d2, d3] => { results := [.lit (.bool true)], args := [d1, d2, d3] }
  | _ => none }
def polySumsRow : OpenClaim := { program := "ytkoeejpiaffmfaa", sum := "11cd2dfac60634510c9885f0260bd9a3cf12d21a62a2863e42e387d1f723ee90", func := "bailee/baileelaw02.PolySums", spec := "polySums", unfollowed := true, recurses := true, apart := false }
def PolySumsSaid : Prop := polySumsRow.holds Try.pinned (OpenSpec.ofChange polySumsSpec)

/-- ITS FALSE NEIGHBOUR: 'it returns false'. Refute it at one input. -/
def polySumsWrong : ChangeSpec := { name := "polySums", fn := fun _ => fun
  | [d1, d2, d3] => { results := [.lit (.bool false)], args := [d1, d2, d3] }
  | _ => none }
def PolySumsWrongFalsely : Prop := polySumsRow.holds Try.pinned (OpenSpec.ofChange polySumsWrong)

/-- 'baileelaw02.PolyValues': WHATEVER THE INPUT: true; the input reads as it did. -/
def polyValuesSpec : ChangeSpec := { name := "polyValues", fn := fun _ => fun
  | [d1, d2] => { results := [.lit (.bool true)], args := [d1, d2] }
  | _ => none }
def polyValuesRow : OpenClaim := { program := "ytkoeejpiaffmfaa", sum := "11cd2dfac60634510c9885f0260bd9a3cf12d21a62a2863e42e387d1f723ee90", func := "bailee/baileelaw02.PolyValues", spec := "polyValues", unfollowed := true, recurses := true, apart := false }
def PolyValuesSaid : Prop := polyValuesRow.holds Try.pinned (OpenSpec.ofChange polyValuesSpec)

/-- ITS FALSE NEIGHBOUR: 'it returns false'. Refute it at one input. -/
def polyValuesWrong : ChangeSpec := { name := "polyValues", fn := fun _ => fun
  | [d1, d2] => { results := [.lit (.bool false)], args := [d1, d2] }
  | _ => none }
def PolyValuesWrongFalsely : Prop := polyValuesRow.holds Try.pinned (OpenSpec.ofChange polyValuesWrong)

/-- 'baileelaw02.PolyEvaluates': WHATEVER THE INPUT: true; the input reads as it did. -/
def polyEvaluatesSpec : ChangeSpec := { name := "polyEvaluates", fn := fun _ => fun
  | [d1, d2, d3] => { results := [.lit (.bool true)], args := [d1, d2, d3] }
  | _ => none }
def polyEvaluatesRow : OpenClaim := { program := "ytkoeejpiaffmfaa", sum := "11cd2dfac60634510c9885f0260bd9a3cf12d21a62a2863e42e387d1f723ee90", func := "bailee/baileelaw02.PolyEvaluates", spec := "polyEvaluates", unfollowed := true, recurses := true, apart := false }
def PolyEvaluatesSaid : Prop := polyEvaluatesRow.holds Try.pinned (OpenSpec.ofChange polyEvaluatesSpec)

/-- ITS FALSE NEIGHBOUR: 'it returns false'. Refute it at one input. -/
def polyEvaluatesWrong : ChangeSpec := { name := "polyEvaluates", fn := fun _ => fun
  | [d1, d2, d3] => { results := [.lit (.bool false)], args := [d1, d2, d3] }
  | _ => none }
def PolyEvaluatesWrongFalsely : Prop := polyEvaluatesRow.holds Try.pinned (OpenSpec.ofChange polyEvaluatesWrong)

/- THE SECOND FORM. 'bulk': how many values and letters a reading holds, each counted each time it is reached (what is shared counts as often as it is met; a slice's spare places count too). A statement '..UptoSaid' is the law's where the arguments, and the package variables that the reading takes, are together of bulk at most 1048576: NARROWER than '..Said'. Prove '..Said' where nothing that the law and all that it calls make is longer than what came in: it says more and counts as full. Else prove '..UptoSaid'. A law counts once. -/
mutual
def uptoBulk {H : Type} : DataW H → Nat
  | .lit (.string bytes) => bytes.length + 1
  | .lit _ => 1
  | .nil => 1
  | .ptr d => uptoBulk d + 1
  | .slice elems spare => uptoBulkAll elems + uptoBulkAll spare + 1
  | .agg parts => uptoBulkAll parts + 1
  | .iface _ d => uptoBulk d + 1
  | .map entries => uptoBulkEntries entries + 1
  | .held _ => 1
def uptoBulkAll {H : Type} : List (DataW H) → Nat
  | [] => 0
  | d :: r => uptoBulk d + uptoBulkAll r
def uptoBulkEntries {H : Type} : List (Lit × DataW H) → Nat
  | [] => 0
  | x :: r => uptoBulkEntry x + uptoBulkEntries r
def uptoBulkEntry {H : Type} : Lit × DataW H → Nat
  | (.string bytes, d) => bytes.length + uptoBulk d + 1
  | (_, d) => uptoBulk d + 1
 end
def uptoSmall : (H : Type) → List (DataW H) → Bool := fun _ ds => decide (uptoBulkAll ds ≤ 1048576)
def OpenSpec.upto (s : _root_.Go.ChangeSpec) : _root_.Go.OpenSpec := { _root_.Go.OpenSpec.ofChange s with cond := some uptoSmall }

/-- 'baileelaw02.PolyRoots', WHERE WHAT IT READS IS OF BULK AT MOST 1048576: true; the input reads as it did. -/
def polyRootsUptoRow : OpenClaim := { program := "ytkoeejpiaffmfaa", sum := "11cd2dfac60634510c9885f0260bd9a3cf12d21a62a2863e42e387d1f723ee90", func := "bailee/baileelaw02.PolyRoots", spec := "polyRoots", unfollowed := true, recurses := true, apart := false, narrowed := true }
def PolyRootsUptoSaid : Prop := polyRootsUptoRow.holds Try.pinned (OpenSpec.upto polyRootsSpec)

/-- 'baileelaw02.PolyLeibniz', WHERE WHAT IT READS IS OF BULK AT MOST 1048576: true; the input reads as it did. -/
def polyLeibnizUptoRow : OpenClaim := { program := "ytkoeejpiaffmfaa", sum := "11cd2dfac60634510c9885f0260bd9a3cf12d21a62a2863e42e387d1f723ee90", func := "bailee/baileelaw02.PolyLeibniz", spec := "polyLeibniz", unfollowed := true, recurses := true, apart := false, narrowed := true }
def PolyLeibnizUptoSaid : Prop := polyLeibnizUptoRow.holds Try.pinned (OpenSpec.upto polyLeibnizSpec)

/-- 'baileelaw02.PolySums', WHERE WHAT IT READS IS OF BULK AT MOST 1048576: true; the input reads as it did. -/
def polySumsUptoRow : OpenClaim := { program := "ytkoeejpiaffmfaa", sum := "11cd2dfac60634510c9885f0260bd9a3cf12d21a62a2863e42e387d1f723ee90", func := "bailee/baileelaw02.PolySums", spec := "polySums", unfollowed := true, recurses := true, apart := false, narrowed := true }
def PolySumsUptoSaid : Prop := polySumsUptoRow.holds Try.pinned (OpenSpec.upto polySumsSpec)

/-- 'baileelaw02.PolyValues', WHERE WHAT IT READS IS OF BULK AT MOST 1048576: true; the input reads as it did. -/
def polyValuesUptoRow : OpenClaim := { program := "ytkoeejpiaffmfaa", sum := "11cd2dfac60634510c9885f0260bd9a3cf12d21a62a2863e42e387d1f723ee90", func := "bailee/baileelaw02.PolyValues", spec := "polyValues", unfollowed := true, recurses := true, apart := false, narrowed := true }
def PolyValuesUptoSaid : Prop := polyValuesUptoRow.holds Try.pinned (OpenSpec.upto polyValuesSpec)

/-- 'baileelaw02.PolyEvaluates', WHERE WHAT IT READS IS OF BULK AT MOST 1048576: true; the input reads as it did. -/
def polyEvaluatesUptoRow : OpenClaim := { program := "ytkoeejpiaffmfaa", sum := "11cd2dfac60634510c9885f0260bd9a3cf12d21a62a2863e42e387d1f723ee90", func := "bailee/baileelaw02.PolyEvaluates", spec := "polyEvaluates", unfollowed := true, recurses := true, apart := false, narrowed := true }
def PolyEvaluatesUptoSaid : Prop := polyEvaluatesUptoRow.holds Try.pinned (OpenSpec.upto polyEvaluatesSpec)

end Rows
end Go.Proofs.Ytkoeejpiaffmfaa
