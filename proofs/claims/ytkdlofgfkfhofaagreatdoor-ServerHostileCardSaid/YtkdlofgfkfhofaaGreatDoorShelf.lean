/-
  DERIVED: THE SHELF's CONTRACTS AT THIS DUMP, IN PLAIN WORDS (tools/lay-plain.mjs out of 'TryzShelf.lean', which tools/lay-shelf.mjs wrote): THE SAME DECLARATIONS UNDER THE SAME NAMES: 'import', 'namespace', 'open', 'def', 'theorem' AND NOTHING ELSE: no command of the shelf's: FOR A HAND-IN. Each laying: the table of numbers ('.._ren') and one theorem, a field a fact of the dump's own or the kernel's comparison; each contract: ONE APPLICATION.
-/
import Derived.Test.YtkdlofgfkfhofaaGreatDoorProg
import Derived.Ground.NamesProg
import Derived.Shelf.Strings.SlTrimAscii
namespace Go.Proofs
open Go.Shelf
def Tryz.lays160_ren : Go.Shelf.Ren := ⟨fun | 160 => 187 | 232 => 229 | 231 => 228 | 227 => 230 | 234 => 232 | 233 => 231 | 236 => 234 | 235 => 233 | 228 => 270 | 271 => 273 | 151 => 272 | 197 => 271 | 120 => 293 | 152 => 292 | 260 => 291 | 137 => 316 | 119 => 317 | 224 => 318 | 225 => 319 | 217 => 329 | 266 => 332 | n => n, fun | 9 => 9 | 4 => 4 | 3 => 3 | 5 => 5 | 117 => 381 | 116 => 380 | 0 => 0 | 124 => 384 | 21 => 21 | 105 => 428 | 46 => 47 | 119 => 472 | 139 => 475 | 138 => 474 | n => n, fun | 3 => 1 | 4 => 2 | n => n⟩
theorem Tryz.lays160 : Go.Proofs.Lays.n160 Tryz.prog Tryz.lays160_ren := {
  mixed := by kernel_rfl
  f119 := Tryz.func317.trans (congrArg some (by kernel_rfl))
  f120 := Tryz.func293.trans (congrArg some (by kernel_rfl))
  f137 := Tryz.func316.trans (congrArg some (by kernel_rfl))
  f151 := Tryz.func272.trans (congrArg some (by kernel_rfl))
  f152 := Tryz.func292.trans (congrArg some (by kernel_rfl))
  f160 := Tryz.func187.trans (congrArg some (by kernel_rfl))
  f197 := Tryz.func271.trans (congrArg some (by kernel_rfl))
  f217 := Tryz.func329.trans (congrArg some (by kernel_rfl))
  f224 := Tryz.func318.trans (congrArg some (by kernel_rfl))
  f225 := Tryz.func319.trans (congrArg some (by kernel_rfl))
  f227 := Tryz.func230.trans (congrArg some (by kernel_rfl))
  f228 := Tryz.func270.trans (congrArg some (by kernel_rfl))
  f231 := Tryz.func228.trans (congrArg some (by kernel_rfl))
  f232 := Tryz.func229.trans (congrArg some (by kernel_rfl))
  f233 := Tryz.func231.trans (congrArg some (by kernel_rfl))
  f234 := Tryz.func232.trans (congrArg some (by kernel_rfl))
  f235 := Tryz.func233.trans (congrArg some (by kernel_rfl))
  f236 := Tryz.func234.trans (congrArg some (by kernel_rfl))
  f260 := Tryz.func291.trans (congrArg some (by kernel_rfl))
  f266 := Tryz.func332.trans (congrArg some (by kernel_rfl))
  f271 := Tryz.func273.trans (congrArg some (by kernel_rfl))
  t0 := Tryz.underlying0
  a0 := Tryz.isAgg0
  z0 := Tryz.sizeOf0
  v0 := Tryz.zeroValue0
  t3 := Tryz.underlying3
  a3 := Tryz.isAgg3
  z3 := Tryz.sizeOf3
  v3 := Tryz.zeroValue3
  t4 := Tryz.underlying4
  a4 := Tryz.isAgg4
  z4 := Tryz.sizeOf4
  v4 := Tryz.zeroValue4
  t5 := Tryz.underlying5
  a5 := Tryz.isAgg5
  z5 := Tryz.sizeOf5
  v5 := Tryz.zeroValue5
  t9 := Tryz.underlying9
  a9 := Tryz.isAgg9
  z9 := Tryz.sizeOf9
  v9 := Tryz.zeroValue9
  t21 := Tryz.underlying21
  a21 := Tryz.isAgg21
  z21 := Tryz.sizeOf21
  v21 := Tryz.zeroValue21
  t46 := Tryz.underlying47
  a46 := Tryz.isAgg47
  z46 := Tryz.sizeOf47
  v46 := Tryz.zeroValue47
  t105 := Tryz.underlying428
  a105 := Tryz.isAgg428
  z105 := Tryz.sizeOf428
  v105 := Tryz.zeroValue428
  t116 := Tryz.underlying380
  a116 := Tryz.isAgg380
  z116 := Tryz.sizeOf380
  t117 := Tryz.underlying381
  a117 := Tryz.isAgg381
  z117 := Tryz.sizeOf381
  v117 := Tryz.zeroValue381
  t119 := Tryz.underlying472
  a119 := Tryz.isAgg472
  z119 := Tryz.sizeOf472
  t124 := Tryz.underlying384
  a124 := Tryz.isAgg384
  z124 := Tryz.sizeOf384
  v124 := Tryz.zeroValue384
  t138 := Tryz.underlying474
  a138 := Tryz.isAgg474
  z138 := Tryz.sizeOf474
  v138 := Tryz.zeroValue474
  t139 := Tryz.underlying475
  a139 := Tryz.isAgg475
  z139 := Tryz.sizeOf475
  v139 := Tryz.zeroValue475
  g3 := by kernel_rfl
  g4 := by kernel_rfl }
end Go.Proofs
