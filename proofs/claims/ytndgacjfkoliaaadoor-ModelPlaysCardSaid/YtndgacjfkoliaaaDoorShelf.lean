/-
  DERIVED: THE SHELF's CONTRACTS AT THIS DUMP, IN PLAIN WORDS (tools/lay-plain.mjs out of 'TrydOne.lean', which tools/lay-shelf.mjs wrote): THE SAME DECLARATIONS UNDER THE SAME NAMES: 'import', 'namespace', 'open', 'def', 'theorem' AND NOTHING ELSE: no command of the shelf's: FOR A HAND-IN. Each laying: the table of numbers ('.._ren') and one theorem, a field a fact of the dump's own or the kernel's comparison; each contract: ONE APPLICATION.
-/
import Derived.Shelf.Strings.SlTrimAscii
import Derived.Test.YtndgacjfkoliaaaDoorProg
namespace Go.Proofs
open Go.Shelf
def Tryd.lays160_ren : Go.Shelf.Ren := ⟨fun | 160 => 38 | 232 => 46 | 231 => 45 | 227 => 47 | 234 => 49 | 233 => 48 | 236 => 51 | 235 => 50 | 228 => 53 | 271 => 56 | 151 => 55 | 197 => 54 | 120 => 59 | 152 => 58 | 260 => 57 | 137 => 60 | 119 => 61 | 224 => 62 | 225 => 63 | 217 => 64 | 266 => 65 | n => n, fun | 9 => 9 | 4 => 4 | 3 => 3 | 5 => 5 | 117 => 108 | 116 => 107 | 0 => 0 | 124 => 111 | 21 => 21 | 105 => 125 | 46 => 130 | 119 => 129 | 139 => 133 | 138 => 132 | n => n, fun | 3 => 20 | 4 => 21 | n => n⟩
theorem Tryd.lays160 : Go.Proofs.Lays.n160 Tryd.prog Tryd.lays160_ren := {
  mixed := by kernel_rfl
  f119 := Tryd.func61.trans (congrArg some (by kernel_rfl))
  f120 := Tryd.func59.trans (congrArg some (by kernel_rfl))
  f137 := Tryd.func60.trans (congrArg some (by kernel_rfl))
  f151 := Tryd.func55.trans (congrArg some (by kernel_rfl))
  f152 := Tryd.func58.trans (congrArg some (by kernel_rfl))
  f160 := Tryd.func38.trans (congrArg some (by kernel_rfl))
  f197 := Tryd.func54.trans (congrArg some (by kernel_rfl))
  f217 := Tryd.func64.trans (congrArg some (by kernel_rfl))
  f224 := Tryd.func62.trans (congrArg some (by kernel_rfl))
  f225 := Tryd.func63.trans (congrArg some (by kernel_rfl))
  f227 := Tryd.func47.trans (congrArg some (by kernel_rfl))
  f228 := Tryd.func53.trans (congrArg some (by kernel_rfl))
  f231 := Tryd.func45.trans (congrArg some (by kernel_rfl))
  f232 := Tryd.func46.trans (congrArg some (by kernel_rfl))
  f233 := Tryd.func48.trans (congrArg some (by kernel_rfl))
  f234 := Tryd.func49.trans (congrArg some (by kernel_rfl))
  f235 := Tryd.func50.trans (congrArg some (by kernel_rfl))
  f236 := Tryd.func51.trans (congrArg some (by kernel_rfl))
  f260 := Tryd.func57.trans (congrArg some (by kernel_rfl))
  f266 := Tryd.func65.trans (congrArg some (by kernel_rfl))
  f271 := Tryd.func56.trans (congrArg some (by kernel_rfl))
  t0 := Tryd.underlying0
  a0 := Tryd.isAgg0
  z0 := Tryd.sizeOf0
  v0 := Tryd.zeroValue0
  t3 := Tryd.underlying3
  a3 := Tryd.isAgg3
  z3 := Tryd.sizeOf3
  v3 := Tryd.zeroValue3
  t4 := Tryd.underlying4
  a4 := Tryd.isAgg4
  z4 := Tryd.sizeOf4
  v4 := Tryd.zeroValue4
  t5 := Tryd.underlying5
  a5 := Tryd.isAgg5
  z5 := Tryd.sizeOf5
  v5 := Tryd.zeroValue5
  t9 := Tryd.underlying9
  a9 := Tryd.isAgg9
  z9 := Tryd.sizeOf9
  v9 := Tryd.zeroValue9
  t21 := Tryd.underlying21
  a21 := Tryd.isAgg21
  z21 := Tryd.sizeOf21
  v21 := Tryd.zeroValue21
  t46 := Tryd.underlying130
  a46 := Tryd.isAgg130
  z46 := Tryd.sizeOf130
  v46 := Tryd.zeroValue130
  t105 := Tryd.underlying125
  a105 := Tryd.isAgg125
  z105 := Tryd.sizeOf125
  v105 := Tryd.zeroValue125
  t116 := Tryd.underlying107
  a116 := Tryd.isAgg107
  z116 := Tryd.sizeOf107
  t117 := Tryd.underlying108
  a117 := Tryd.isAgg108
  z117 := Tryd.sizeOf108
  v117 := Tryd.zeroValue108
  t119 := Tryd.underlying129
  a119 := Tryd.isAgg129
  z119 := Tryd.sizeOf129
  t124 := Tryd.underlying111
  a124 := Tryd.isAgg111
  z124 := Tryd.sizeOf111
  v124 := Tryd.zeroValue111
  t138 := Tryd.underlying132
  a138 := Tryd.isAgg132
  z138 := Tryd.sizeOf132
  v138 := Tryd.zeroValue132
  t139 := Tryd.underlying133
  a139 := Tryd.isAgg133
  z139 := Tryd.sizeOf133
  v139 := Tryd.zeroValue133
  g3 := by kernel_rfl
  g4 := by kernel_rfl }
end Go.Proofs
