/-
  DERIVED: THE SHELF's CONTRACTS AT THIS DUMP, IN PLAIN WORDS (tools/lay-plain.mjs out of 'TrydOne.lean', which tools/lay-shelf.mjs wrote): THE SAME DECLARATIONS UNDER THE SAME NAMES: 'import', 'namespace', 'open', 'def', 'theorem' AND NOTHING ELSE: no command of the shelf's: FOR A HAND-IN. Each laying: the table of numbers ('.._ren') and one theorem, a field a fact of the dump's own or the kernel's comparison; each contract: ONE APPLICATION.
-/
import Derived.Shelf.Strings.SlTrimAscii
import Derived.Test.YtahnicbokdbjdaaDoorProg
namespace Go.Proofs
open Go.Shelf
def Tryd.lays160_ren : Go.Shelf.Ren := ⟨fun | 160 => 42 | 232 => 51 | 231 => 50 | 227 => 52 | 234 => 54 | 233 => 53 | 236 => 56 | 235 => 55 | 228 => 59 | 271 => 62 | 151 => 61 | 197 => 60 | 120 => 65 | 152 => 64 | 260 => 63 | 137 => 66 | 119 => 67 | 224 => 68 | 225 => 69 | 217 => 70 | 266 => 71 | n => n, fun | 9 => 9 | 4 => 4 | 3 => 3 | 5 => 5 | 117 => 112 | 116 => 111 | 0 => 0 | 124 => 115 | 21 => 21 | 105 => 121 | 46 => 76 | 119 => 125 | 139 => 128 | 138 => 127 | n => n, fun | 3 => 20 | 4 => 21 | n => n⟩
theorem Tryd.lays160 : Go.Proofs.Lays.n160 Tryd.prog Tryd.lays160_ren := {
  mixed := by kernel_rfl
  f119 := Tryd.func67.trans (congrArg some (by kernel_rfl))
  f120 := Tryd.func65.trans (congrArg some (by kernel_rfl))
  f137 := Tryd.func66.trans (congrArg some (by kernel_rfl))
  f151 := Tryd.func61.trans (congrArg some (by kernel_rfl))
  f152 := Tryd.func64.trans (congrArg some (by kernel_rfl))
  f160 := Tryd.func42.trans (congrArg some (by kernel_rfl))
  f197 := Tryd.func60.trans (congrArg some (by kernel_rfl))
  f217 := Tryd.func70.trans (congrArg some (by kernel_rfl))
  f224 := Tryd.func68.trans (congrArg some (by kernel_rfl))
  f225 := Tryd.func69.trans (congrArg some (by kernel_rfl))
  f227 := Tryd.func52.trans (congrArg some (by kernel_rfl))
  f228 := Tryd.func59.trans (congrArg some (by kernel_rfl))
  f231 := Tryd.func50.trans (congrArg some (by kernel_rfl))
  f232 := Tryd.func51.trans (congrArg some (by kernel_rfl))
  f233 := Tryd.func53.trans (congrArg some (by kernel_rfl))
  f234 := Tryd.func54.trans (congrArg some (by kernel_rfl))
  f235 := Tryd.func55.trans (congrArg some (by kernel_rfl))
  f236 := Tryd.func56.trans (congrArg some (by kernel_rfl))
  f260 := Tryd.func63.trans (congrArg some (by kernel_rfl))
  f266 := Tryd.func71.trans (congrArg some (by kernel_rfl))
  f271 := Tryd.func62.trans (congrArg some (by kernel_rfl))
  t0 := Tryd.underlying0
  a0 := Tryd.isAgg0
  z0 := Tryd.sizeOf0
  v0 := Tryd.zeroValue0
  t3 := Tryd.underlying3
  a3 := Tryd.isAgg3
  z3 := Tryd.sizeOf3
  v3 := Tryd.zeroValue3
  t4 := Tryd.underlying4
  a4 := Tryd.isAgg4
  z4 := Tryd.sizeOf4
  v4 := Tryd.zeroValue4
  t5 := Tryd.underlying5
  a5 := Tryd.isAgg5
  z5 := Tryd.sizeOf5
  v5 := Tryd.zeroValue5
  t9 := Tryd.underlying9
  a9 := Tryd.isAgg9
  z9 := Tryd.sizeOf9
  v9 := Tryd.zeroValue9
  t21 := Tryd.underlying21
  a21 := Tryd.isAgg21
  z21 := Tryd.sizeOf21
  v21 := Tryd.zeroValue21
  t46 := Tryd.underlying76
  a46 := Tryd.isAgg76
  z46 := Tryd.sizeOf76
  v46 := Tryd.zeroValue76
  t105 := Tryd.underlying121
  a105 := Tryd.isAgg121
  z105 := Tryd.sizeOf121
  v105 := Tryd.zeroValue121
  t116 := Tryd.underlying111
  a116 := Tryd.isAgg111
  z116 := Tryd.sizeOf111
  t117 := Tryd.underlying112
  a117 := Tryd.isAgg112
  z117 := Tryd.sizeOf112
  v117 := Tryd.zeroValue112
  t119 := Tryd.underlying125
  a119 := Tryd.isAgg125
  z119 := Tryd.sizeOf125
  t124 := Tryd.underlying115
  a124 := Tryd.isAgg115
  z124 := Tryd.sizeOf115
  v124 := Tryd.zeroValue115
  t138 := Tryd.underlying127
  a138 := Tryd.isAgg127
  z138 := Tryd.sizeOf127
  v138 := Tryd.zeroValue127
  t139 := Tryd.underlying128
  a139 := Tryd.isAgg128
  z139 := Tryd.sizeOf128
  v139 := Tryd.zeroValue128
  g3 := by kernel_rfl
  g4 := by kernel_rfl }
end Go.Proofs
