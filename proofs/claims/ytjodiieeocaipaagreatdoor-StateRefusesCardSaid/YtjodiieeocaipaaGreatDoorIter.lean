/-
  DERIVED: THE SHELF's CONTRACTS AT THIS DUMP, IN PLAIN WORDS (tools/lay-plain.mjs out of 'TryzIter.lean', which tools/lay-shelf.mjs wrote): THE SAME DECLARATIONS UNDER THE SAME NAMES: 'import', 'namespace', 'open', 'def', 'theorem' AND NOTHING ELSE: no command of the shelf's: FOR A HAND-IN. Each laying: the table of numbers ('.._ren') and one theorem, a field a fact of the dump's own or the kernel's comparison; each contract: ONE APPLICATION.
-/
import Derived.Shelf.SlGeneric
import Derived.Shelf.SlIter.Nil
import Derived.Shelf.SortM.Plain
import Derived.Shelf.SortM.SortNone
import Derived.Ground.GgzProg
import Derived.Ground.SlgmProg
import Derived.Test.YtjodiieeocaipaaGreatDoorProg
namespace Go.Proofs
open Go.Shelf
def Tryz.keys36_ren : Go.Shelf.Ren := ⟨fun | 7 => 36 | 10 => 63 | n => n, fun | 23 => 62 | 26 => 9 | 3 => 86 | 28 => 84 | 0 => 0 | 27 => 83 | 33 => 107 | 4 => 4 | n => n, fun | n => n⟩
theorem Tryz.keys36 : Go.Proofs.SlLaysZ.n7 Tryz.prog Tryz.keys36_ren := {
  mixed := by kernel_rfl
  f7 := ⟨Tryz.f36.name, by decide, Tryz.func36.trans (congrArg some (by kernel_rfl))⟩
  f10 := ⟨Tryz.f63.name, by decide, Tryz.func63.trans (congrArg some (by kernel_rfl))⟩
  t0 := Tryz.underlying0
  a0 := Tryz.isAgg0
  z0 := Tryz.sizeOf0
  v0 := Tryz.zeroValue0
  t4 := Tryz.underlying4
  a4 := Tryz.isAgg4
  z4 := Tryz.sizeOf4
  v4 := Tryz.zeroValue4
  t23 := Tryz.underlying62
  a23 := Tryz.isAgg62
  z23 := Tryz.sizeOf62
  v23 := Tryz.zeroValue62
  t26 := Tryz.underlying9
  a26 := Tryz.isAgg9
  z26 := Tryz.sizeOf9
  v26 := Tryz.zeroValue9
  t27 := Tryz.underlying83
  a27 := Tryz.isAgg83
  z27 := Tryz.sizeOf83
  v27 := Tryz.zeroValue83
  t28 := Tryz.underlying84
  a28 := Tryz.isAgg84
  z28 := Tryz.sizeOf84
  v28 := Tryz.zeroValue84
  t33 := Tryz.underlying107
  a33 := Tryz.isAgg107
  z33 := Tryz.sizeOf107
  v33 := Tryz.zeroValue107 }
def Tryz.sorted35_ren : Go.Shelf.Ren := ⟨fun | 6 => 35 | 8 => 61 | 9 => 62 | 11 => 89 | 13 => 91 | 12 => 90 | 23 => 127 | 24 => 128 | 14 => 118 | 15 => 119 | 16 => 120 | 17 => 121 | 18 => 122 | 19 => 123 | 20 => 124 | 21 => 125 | 22 => 126 | 25 => 137 | 26 => 138 | 27 => 139 | 28 => 140 | 29 => 141 | 30 => 142 | 31 => 149 | n => n, fun | 26 => 9 | 28 => 84 | 24 => 30 | 0 => 0 | 3 => 3 | 37 => 193 | 48 => 228 | 50 => 230 | 4 => 4 | 40 => 221 | 39 => 220 | 45 => 44 | 5 => 5 | 9 => 9 | 51 => 241 | 55 => 245 | 57 => 250 | 58 => 251 | 33 => 107 | n => n, fun | n => n⟩
theorem Tryz.sorted35 : Go.Proofs.SlLaysZ.n6 Tryz.prog Tryz.sorted35_ren := {
  mixed := by kernel_rfl
  f6 := ⟨Tryz.f35.name, by decide, Tryz.func35.trans (congrArg some (by kernel_rfl))⟩
  f8 := ⟨Tryz.f61.name, by decide, Tryz.func61.trans (congrArg some (by kernel_rfl))⟩
  f11 := ⟨Tryz.f89.name, by decide, Tryz.func89.trans (congrArg some (by kernel_rfl))⟩
  t0 := Tryz.underlying0
  a0 := Tryz.isAgg0
  z0 := Tryz.sizeOf0
  v0 := Tryz.zeroValue0
  t24 := Tryz.underlying30
  a24 := Tryz.isAgg30
  z24 := Tryz.sizeOf30
  v24 := Tryz.zeroValue30
  t26 := Tryz.underlying9
  a26 := Tryz.isAgg9
  z26 := Tryz.sizeOf9
  v26 := Tryz.zeroValue9
  t28 := Tryz.underlying84
  a28 := Tryz.isAgg84
  z28 := Tryz.sizeOf84
  v28 := Tryz.zeroValue84
  i26 := by kernel_rfl }
def Tryz.sort62_ren : Go.Shelf.Ren := ⟨fun | 6 => 62 | 8 => 91 | 9 => 90 | 19 => 127 | 20 => 128 | 21 => 118 | 22 => 119 | 23 => 120 | 24 => 121 | 25 => 122 | 26 => 123 | 27 => 124 | 28 => 125 | 29 => 126 | 36 => 137 | 31 => 138 | 32 => 139 | 37 => 140 | 38 => 141 | 39 => 142 | 41 => 149 | n => n, fun | 27 => 30 | 29 => 9 | 3 => 3 | 32 => 193 | 26 => 30 | 0 => 0 | 44 => 228 | 46 => 230 | 4 => 4 | 36 => 221 | 35 => 220 | 41 => 44 | 5 => 5 | 9 => 9 | 53 => 241 | 57 => 245 | 63 => 250 | 64 => 251 | n => n, fun | n => n⟩
theorem Tryz.sort62 : Go.Proofs.SlLaysM.n6 Tryz.prog Tryz.sort62_ren := {
  mixed := by kernel_rfl
  f6 := ⟨Tryz.f62.name, by decide, Tryz.func62.trans (congrArg some (by kernel_rfl))⟩
  f8 := Tryz.func91.trans (congrArg some (by kernel_rfl))
  f9 := ⟨Tryz.f90.name, by decide, Tryz.func90.trans (congrArg some (by kernel_rfl))⟩
  f19 := Tryz.func127.trans (congrArg some (by kernel_rfl))
  f20 := Tryz.func128.trans (congrArg some (by kernel_rfl))
  f21 := ⟨Tryz.f118.name, by decide, Tryz.func118.trans (congrArg some (by kernel_rfl))⟩
  f22 := ⟨Tryz.f119.name, by decide, Tryz.func119.trans (congrArg some (by kernel_rfl))⟩
  f23 := ⟨Tryz.f120.name, by decide, Tryz.func120.trans (congrArg some (by kernel_rfl))⟩
  f24 := ⟨Tryz.f121.name, by decide, Tryz.func121.trans (congrArg some (by kernel_rfl))⟩
  f25 := ⟨Tryz.f122.name, by decide, Tryz.func122.trans (congrArg some (by kernel_rfl))⟩
  f26 := ⟨Tryz.f123.name, by decide, Tryz.func123.trans (congrArg some (by kernel_rfl))⟩
  f27 := ⟨Tryz.f124.name, by decide, Tryz.func124.trans (congrArg some (by kernel_rfl))⟩
  f28 := ⟨Tryz.f125.name, by decide, Tryz.func125.trans (congrArg some (by kernel_rfl))⟩
  f29 := ⟨Tryz.f126.name, by decide, Tryz.func126.trans (congrArg some (by kernel_rfl))⟩
  f31 := Tryz.func138.trans (congrArg some (by kernel_rfl))
  f32 := Tryz.func139.trans (congrArg some (by kernel_rfl))
  f36 := ⟨Tryz.f137.name, by decide, Tryz.func137.trans (congrArg some (by kernel_rfl))⟩
  f37 := ⟨Tryz.f140.name, by decide, Tryz.func140.trans (congrArg some (by kernel_rfl))⟩
  f38 := ⟨Tryz.f141.name, by decide, Tryz.func141.trans (congrArg some (by kernel_rfl))⟩
  f39 := ⟨Tryz.f142.name, by decide, Tryz.func142.trans (congrArg some (by kernel_rfl))⟩
  f41 := ⟨Tryz.f149.name, by decide, Tryz.func149.trans (congrArg some (by kernel_rfl))⟩
  t0 := Tryz.underlying0
  a0 := Tryz.isAgg0
  z0 := Tryz.sizeOf0
  v0 := Tryz.zeroValue0
  t3 := Tryz.underlying3
  a3 := Tryz.isAgg3
  z3 := Tryz.sizeOf3
  v3 := Tryz.zeroValue3
  t4 := Tryz.underlying4
  a4 := Tryz.isAgg4
  z4 := Tryz.sizeOf4
  v4 := Tryz.zeroValue4
  t5 := Tryz.underlying5
  a5 := Tryz.isAgg5
  z5 := Tryz.sizeOf5
  v5 := Tryz.zeroValue5
  t9 := Tryz.underlying9
  a9 := Tryz.isAgg9
  z9 := Tryz.sizeOf9
  v9 := Tryz.zeroValue9
  t26 := Tryz.underlying30
  a26 := Tryz.isAgg30
  z26 := Tryz.sizeOf30
  v26 := Tryz.zeroValue30
  t27 := Tryz.underlying30
  a27 := Tryz.isAgg30
  z27 := Tryz.sizeOf30
  v27 := Tryz.zeroValue30
  t29 := Tryz.underlying9
  a29 := Tryz.isAgg9
  z29 := Tryz.sizeOf9
  v29 := Tryz.zeroValue9
  t32 := Tryz.underlying193
  a32 := Tryz.isAgg193
  z32 := Tryz.sizeOf193
  v32 := Tryz.zeroValue193
  t35 := Tryz.underlying220
  a35 := Tryz.isAgg220
  z35 := Tryz.sizeOf220
  v35 := Tryz.zeroValue220
  t36 := Tryz.underlying221
  a36 := Tryz.isAgg221
  z36 := Tryz.sizeOf221
  v36 := Tryz.zeroValue221
  t41 := Tryz.underlying44
  a41 := Tryz.isAgg44
  z41 := Tryz.sizeOf44
  v41 := Tryz.zeroValue44
  t44 := Tryz.underlying228
  a44 := Tryz.isAgg228
  z44 := Tryz.sizeOf228
  v44 := Tryz.zeroValue228
  t46 := Tryz.underlying230
  a46 := Tryz.isAgg230
  z46 := Tryz.sizeOf230
  v46 := Tryz.zeroValue230
  t53 := Tryz.underlying241
  a53 := Tryz.isAgg241
  z53 := Tryz.sizeOf241
  v53 := Tryz.zeroValue241
  t57 := Tryz.underlying245
  a57 := Tryz.isAgg245
  z57 := Tryz.sizeOf245
  v57 := Tryz.zeroValue245
  t63 := Tryz.underlying250
  a63 := Tryz.isAgg250
  z63 := Tryz.sizeOf250
  v63 := Tryz.zeroValue250
  t64 := Tryz.underlying251
  a64 := Tryz.isAgg251
  z64 := Tryz.sizeOf251
  v64 := Tryz.zeroValue251 }
end Go.Proofs
