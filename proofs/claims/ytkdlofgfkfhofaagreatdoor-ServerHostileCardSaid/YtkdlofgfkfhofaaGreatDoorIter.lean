/-
  DERIVED: THE SHELF's CONTRACTS AT THIS DUMP, IN PLAIN WORDS (tools/lay-plain.mjs out of 'TryzIter.lean', which tools/lay-shelf.mjs wrote): THE SAME DECLARATIONS UNDER THE SAME NAMES: 'import', 'namespace', 'open', 'def', 'theorem' AND NOTHING ELSE: no command of the shelf's: FOR A HAND-IN. Each laying: the table of numbers ('.._ren') and one theorem, a field a fact of the dump's own or the kernel's comparison; each contract: ONE APPLICATION.
-/
import Derived.Shelf.SlGeneric
import Derived.Shelf.SlIter.Nil
import Derived.Shelf.SortM.Plain
import Derived.Shelf.SortM.SortNone
import Derived.Ground.GgzProg
import Derived.Ground.SlgmProg
import Derived.Test.YtkdlofgfkfhofaaGreatDoorProg
namespace Go.Proofs
open Go.Shelf
def Tryz.keys200_ren : Go.Shelf.Ren := ⟨fun | 7 => 200 | 10 => 244 | n => n, fun | 23 => 212 | 26 => 9 | 3 => 341 | 28 => 339 | 0 => 0 | 27 => 338 | 33 => 239 | 4 => 4 | n => n, fun | n => n⟩
theorem Tryz.keys200 : Go.Proofs.SlLaysZ.n7 Tryz.prog Tryz.keys200_ren := {
  mixed := by kernel_rfl
  f7 := ⟨Tryz.f200.name, by decide, Tryz.func200.trans (congrArg some (by kernel_rfl))⟩
  f10 := ⟨Tryz.f244.name, by decide, Tryz.func244.trans (congrArg some (by kernel_rfl))⟩
  t0 := Tryz.underlying0
  a0 := Tryz.isAgg0
  z0 := Tryz.sizeOf0
  v0 := Tryz.zeroValue0
  t4 := Tryz.underlying4
  a4 := Tryz.isAgg4
  z4 := Tryz.sizeOf4
  v4 := Tryz.zeroValue4
  t23 := Tryz.underlying212
  a23 := Tryz.isAgg212
  z23 := Tryz.sizeOf212
  v23 := Tryz.zeroValue212
  t26 := Tryz.underlying9
  a26 := Tryz.isAgg9
  z26 := Tryz.sizeOf9
  v26 := Tryz.zeroValue9
  t27 := Tryz.underlying338
  a27 := Tryz.isAgg338
  z27 := Tryz.sizeOf338
  v27 := Tryz.zeroValue338
  t28 := Tryz.underlying339
  a28 := Tryz.isAgg339
  z28 := Tryz.sizeOf339
  v28 := Tryz.zeroValue339
  t33 := Tryz.underlying239
  a33 := Tryz.isAgg239
  z33 := Tryz.sizeOf239
  v33 := Tryz.zeroValue239 }
def Tryz.sorted199_ren : Go.Shelf.Ren := ⟨fun | 6 => 199 | 8 => 242 | 9 => 243 | 11 => 276 | 13 => 278 | 12 => 277 | 23 => 304 | 24 => 305 | 14 => 295 | 15 => 296 | 16 => 297 | 17 => 298 | 18 => 299 | 19 => 300 | 20 => 301 | 21 => 302 | 22 => 303 | 25 => 320 | 26 => 321 | 27 => 322 | 28 => 323 | 29 => 324 | 30 => 325 | 31 => 330 | n => n, fun | 26 => 9 | 28 => 339 | 24 => 28 | 0 => 0 | 3 => 3 | 37 => 47 | 48 => 34 | 50 => 148 | 4 => 4 | 40 => 458 | 39 => 457 | 45 => 289 | 5 => 5 | 9 => 9 | 51 => 479 | 55 => 483 | 57 => 487 | 58 => 488 | 33 => 239 | n => n, fun | n => n⟩
theorem Tryz.sorted199 : Go.Proofs.SlLaysZ.n6 Tryz.prog Tryz.sorted199_ren := {
  mixed := by kernel_rfl
  f6 := ⟨Tryz.f199.name, by decide, Tryz.func199.trans (congrArg some (by kernel_rfl))⟩
  f8 := ⟨Tryz.f242.name, by decide, Tryz.func242.trans (congrArg some (by kernel_rfl))⟩
  f11 := ⟨Tryz.f276.name, by decide, Tryz.func276.trans (congrArg some (by kernel_rfl))⟩
  t0 := Tryz.underlying0
  a0 := Tryz.isAgg0
  z0 := Tryz.sizeOf0
  v0 := Tryz.zeroValue0
  t24 := Tryz.underlying28
  a24 := Tryz.isAgg28
  z24 := Tryz.sizeOf28
  v24 := Tryz.zeroValue28
  t26 := Tryz.underlying9
  a26 := Tryz.isAgg9
  z26 := Tryz.sizeOf9
  v26 := Tryz.zeroValue9
  t28 := Tryz.underlying339
  a28 := Tryz.isAgg339
  z28 := Tryz.sizeOf339
  v28 := Tryz.zeroValue339
  i26 := by kernel_rfl }
def Tryz.sort243_ren : Go.Shelf.Ren := ⟨fun | 6 => 243 | 8 => 278 | 9 => 277 | 19 => 304 | 20 => 305 | 21 => 295 | 22 => 296 | 23 => 297 | 24 => 298 | 25 => 299 | 26 => 300 | 27 => 301 | 28 => 302 | 29 => 303 | 36 => 320 | 31 => 321 | 32 => 322 | 37 => 323 | 38 => 324 | 39 => 325 | 41 => 330 | n => n, fun | 27 => 28 | 29 => 9 | 3 => 3 | 32 => 47 | 26 => 28 | 0 => 0 | 44 => 34 | 46 => 148 | 4 => 4 | 36 => 458 | 35 => 457 | 41 => 289 | 5 => 5 | 9 => 9 | 53 => 479 | 57 => 483 | 63 => 487 | 64 => 488 | n => n, fun | n => n⟩
theorem Tryz.sort243 : Go.Proofs.SlLaysM.n6 Tryz.prog Tryz.sort243_ren := {
  mixed := by kernel_rfl
  f6 := ⟨Tryz.f243.name, by decide, Tryz.func243.trans (congrArg some (by kernel_rfl))⟩
  f8 := Tryz.func278.trans (congrArg some (by kernel_rfl))
  f9 := ⟨Tryz.f277.name, by decide, Tryz.func277.trans (congrArg some (by kernel_rfl))⟩
  f19 := Tryz.func304.trans (congrArg some (by kernel_rfl))
  f20 := Tryz.func305.trans (congrArg some (by kernel_rfl))
  f21 := ⟨Tryz.f295.name, by decide, Tryz.func295.trans (congrArg some (by kernel_rfl))⟩
  f22 := ⟨Tryz.f296.name, by decide, Tryz.func296.trans (congrArg some (by kernel_rfl))⟩
  f23 := ⟨Tryz.f297.name, by decide, Tryz.func297.trans (congrArg some (by kernel_rfl))⟩
  f24 := ⟨Tryz.f298.name, by decide, Tryz.func298.trans (congrArg some (by kernel_rfl))⟩
  f25 := ⟨Tryz.f299.name, by decide, Tryz.func299.trans (congrArg some (by kernel_rfl))⟩
  f26 := ⟨Tryz.f300.name, by decide, Tryz.func300.trans (congrArg some (by kernel_rfl))⟩
  f27 := ⟨Tryz.f301.name, by decide, Tryz.func301.trans (congrArg some (by kernel_rfl))⟩
  f28 := ⟨Tryz.f302.name, by decide, Tryz.func302.trans (congrArg some (by kernel_rfl))⟩
  f29 := ⟨Tryz.f303.name, by decide, Tryz.func303.trans (congrArg some (by kernel_rfl))⟩
  f31 := Tryz.func321.trans (congrArg some (by kernel_rfl))
  f32 := Tryz.func322.trans (congrArg some (by kernel_rfl))
  f36 := ⟨Tryz.f320.name, by decide, Tryz.func320.trans (congrArg some (by kernel_rfl))⟩
  f37 := ⟨Tryz.f323.name, by decide, Tryz.func323.trans (congrArg some (by kernel_rfl))⟩
  f38 := ⟨Tryz.f324.name, by decide, Tryz.func324.trans (congrArg some (by kernel_rfl))⟩
  f39 := ⟨Tryz.f325.name, by decide, Tryz.func325.trans (congrArg some (by kernel_rfl))⟩
  f41 := ⟨Tryz.f330.name, by decide, Tryz.func330.trans (congrArg some (by kernel_rfl))⟩
  t0 := Tryz.underlying0
  a0 := Tryz.isAgg0
  z0 := Tryz.sizeOf0
  v0 := Tryz.zeroValue0
  t3 := Tryz.underlying3
  a3 := Tryz.isAgg3
  z3 := Tryz.sizeOf3
  v3 := Tryz.zeroValue3
  t4 := Tryz.underlying4
  a4 := Tryz.isAgg4
  z4 := Tryz.sizeOf4
  v4 := Tryz.zeroValue4
  t5 := Tryz.underlying5
  a5 := Tryz.isAgg5
  z5 := Tryz.sizeOf5
  v5 := Tryz.zeroValue5
  t9 := Tryz.underlying9
  a9 := Tryz.isAgg9
  z9 := Tryz.sizeOf9
  v9 := Tryz.zeroValue9
  t26 := Tryz.underlying28
  a26 := Tryz.isAgg28
  z26 := Tryz.sizeOf28
  v26 := Tryz.zeroValue28
  t27 := Tryz.underlying28
  a27 := Tryz.isAgg28
  z27 := Tryz.sizeOf28
  v27 := Tryz.zeroValue28
  t29 := Tryz.underlying9
  a29 := Tryz.isAgg9
  z29 := Tryz.sizeOf9
  v29 := Tryz.zeroValue9
  t32 := Tryz.underlying47
  a32 := Tryz.isAgg47
  z32 := Tryz.sizeOf47
  v32 := Tryz.zeroValue47
  t35 := Tryz.underlying457
  a35 := Tryz.isAgg457
  z35 := Tryz.sizeOf457
  v35 := Tryz.zeroValue457
  t36 := Tryz.underlying458
  a36 := Tryz.isAgg458
  z36 := Tryz.sizeOf458
  v36 := Tryz.zeroValue458
  t41 := Tryz.underlying289
  a41 := Tryz.isAgg289
  z41 := Tryz.sizeOf289
  v41 := Tryz.zeroValue289
  t44 := Tryz.underlying34
  a44 := Tryz.isAgg34
  z44 := Tryz.sizeOf34
  v44 := Tryz.zeroValue34
  t46 := Tryz.underlying148
  a46 := Tryz.isAgg148
  z46 := Tryz.sizeOf148
  v46 := Tryz.zeroValue148
  t53 := Tryz.underlying479
  a53 := Tryz.isAgg479
  z53 := Tryz.sizeOf479
  v53 := Tryz.zeroValue479
  t57 := Tryz.underlying483
  a57 := Tryz.isAgg483
  z57 := Tryz.sizeOf483
  v57 := Tryz.zeroValue483
  t63 := Tryz.underlying487
  a63 := Tryz.isAgg487
  z63 := Tryz.sizeOf487
  v63 := Tryz.zeroValue487
  t64 := Tryz.underlying488
  a64 := Tryz.isAgg488
  z64 := Tryz.sizeOf488
  v64 := Tryz.zeroValue488 }
end Go.Proofs
