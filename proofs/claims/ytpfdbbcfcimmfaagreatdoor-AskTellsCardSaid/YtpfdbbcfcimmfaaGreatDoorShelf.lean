/-
  DERIVED: THE SHELF's CONTRACTS AT THIS DUMP, IN PLAIN WORDS (tools/lay-plain.mjs out of 'TryzShelf.lean', which tools/lay-shelf.mjs wrote): THE SAME DECLARATIONS UNDER THE SAME NAMES: 'import', 'namespace', 'open', 'def', 'theorem' AND NOTHING ELSE: no command of the shelf's: FOR A HAND-IN. Each laying: the table of numbers ('.._ren') and one theorem, a field a fact of the dump's own or the kernel's comparison; each contract: ONE APPLICATION.
-/
import Derived.Test.YtpfdbbcfcimmfaaGreatDoorProg
import Derived.Ground.NamesProg
import Derived.Shelf.Strings.SlTrimAscii
namespace Go.Proofs
open Go.Shelf
def Tryz.lays160_ren : Go.Shelf.Ren := ⟨fun | 160 => 72 | 232 => 107 | 231 => 106 | 227 => 108 | 234 => 110 | 233 => 109 | 236 => 112 | 235 => 111 | 228 => 121 | 271 => 124 | 151 => 123 | 197 => 122 | 120 => 128 | 152 => 127 | 260 => 126 | 137 => 129 | 119 => 130 | 224 => 131 | 225 => 132 | 217 => 133 | 266 => 134 | n => n, fun | 9 => 9 | 4 => 4 | 3 => 3 | 5 => 5 | 117 => 146 | 116 => 145 | 0 => 0 | 124 => 149 | 21 => 21 | 105 => 171 | 46 => 61 | 119 => 176 | 139 => 179 | 138 => 178 | n => n, fun | 3 => 1 | 4 => 2 | n => n⟩
theorem Tryz.lays160 : Go.Proofs.Lays.n160 Tryz.prog Tryz.lays160_ren := {
  mixed := by kernel_rfl
  f119 := Tryz.func130.trans (congrArg some (by kernel_rfl))
  f120 := Tryz.func128.trans (congrArg some (by kernel_rfl))
  f137 := Tryz.func129.trans (congrArg some (by kernel_rfl))
  f151 := Tryz.func123.trans (congrArg some (by kernel_rfl))
  f152 := Tryz.func127.trans (congrArg some (by kernel_rfl))
  f160 := Tryz.func72.trans (congrArg some (by kernel_rfl))
  f197 := Tryz.func122.trans (congrArg some (by kernel_rfl))
  f217 := Tryz.func133.trans (congrArg some (by kernel_rfl))
  f224 := Tryz.func131.trans (congrArg some (by kernel_rfl))
  f225 := Tryz.func132.trans (congrArg some (by kernel_rfl))
  f227 := Tryz.func108.trans (congrArg some (by kernel_rfl))
  f228 := Tryz.func121.trans (congrArg some (by kernel_rfl))
  f231 := Tryz.func106.trans (congrArg some (by kernel_rfl))
  f232 := Tryz.func107.trans (congrArg some (by kernel_rfl))
  f233 := Tryz.func109.trans (congrArg some (by kernel_rfl))
  f234 := Tryz.func110.trans (congrArg some (by kernel_rfl))
  f235 := Tryz.func111.trans (congrArg some (by kernel_rfl))
  f236 := Tryz.func112.trans (congrArg some (by kernel_rfl))
  f260 := Tryz.func126.trans (congrArg some (by kernel_rfl))
  f266 := Tryz.func134.trans (congrArg some (by kernel_rfl))
  f271 := Tryz.func124.trans (congrArg some (by kernel_rfl))
  t0 := Tryz.underlying0
  a0 := Tryz.isAgg0
  z0 := Tryz.sizeOf0
  v0 := Tryz.zeroValue0
  t3 := Tryz.underlying3
  a3 := Tryz.isAgg3
  z3 := Tryz.sizeOf3
  v3 := Tryz.zeroValue3
  t4 := Tryz.underlying4
  a4 := Tryz.isAgg4
  z4 := Tryz.sizeOf4
  v4 := Tryz.zeroValue4
  t5 := Tryz.underlying5
  a5 := Tryz.isAgg5
  z5 := Tryz.sizeOf5
  v5 := Tryz.zeroValue5
  t9 := Tryz.underlying9
  a9 := Tryz.isAgg9
  z9 := Tryz.sizeOf9
  v9 := Tryz.zeroValue9
  t21 := Tryz.underlying21
  a21 := Tryz.isAgg21
  z21 := Tryz.sizeOf21
  v21 := Tryz.zeroValue21
  t46 := Tryz.underlying61
  a46 := Tryz.isAgg61
  z46 := Tryz.sizeOf61
  v46 := Tryz.zeroValue61
  t105 := Tryz.underlying171
  a105 := Tryz.isAgg171
  z105 := Tryz.sizeOf171
  v105 := Tryz.zeroValue171
  t116 := Tryz.underlying145
  a116 := Tryz.isAgg145
  z116 := Tryz.sizeOf145
  t117 := Tryz.underlying146
  a117 := Tryz.isAgg146
  z117 := Tryz.sizeOf146
  v117 := Tryz.zeroValue146
  t119 := Tryz.underlying176
  a119 := Tryz.isAgg176
  z119 := Tryz.sizeOf176
  t124 := Tryz.underlying149
  a124 := Tryz.isAgg149
  z124 := Tryz.sizeOf149
  v124 := Tryz.zeroValue149
  t138 := Tryz.underlying178
  a138 := Tryz.isAgg178
  z138 := Tryz.sizeOf178
  v138 := Tryz.zeroValue178
  t139 := Tryz.underlying179
  a139 := Tryz.isAgg179
  z139 := Tryz.sizeOf179
  v139 := Tryz.zeroValue179
  g3 := by kernel_rfl
  g4 := by kernel_rfl }
end Go.Proofs
