/-
  DERIVED: THE SHELF's CONTRACTS AT THIS DUMP, IN PLAIN WORDS (tools/lay-plain.mjs out of 'YtfmkmhhghmdakaaGreatDoorShelfT.lean', which tools/lay-shelf.mjs wrote): THE SAME DECLARATIONS UNDER THE SAME NAMES: 'import', 'namespace', 'open', 'def', 'theorem' AND NOTHING ELSE: no command of the shelf's: FOR A HAND-IN. Each laying: the table of numbers ('.._ren') and one theorem, a field a fact of the dump's own or the kernel's comparison; each contract: ONE APPLICATION.
-/
import Derived.Shelf.SlSortCmp.Whole1
import Derived.Shelf.SlSortCmp.NoneTotal
import Derived.Test.YtfmkmhhghmdakaaGreatDoorProg
namespace Go.Proofs
open Go.Shelf
def Tryz.laySortInts_ren : Go.Shelf.Ren := ⟨fun | 6 => 168 | 15 => 191 | 14 => 247 | 28 => 268 | 29 => 269 | 20 => 311 | 21 => 312 | 22 => 313 | 23 => 314 | 24 => 315 | 25 => 316 | 26 => 317 | 27 => 318 | 46 => 352 | 47 => 321 | 48 => 322 | 49 => 353 | 50 => 354 | 57 => 365 | n => n, fun | 22 => 22 | 24 => 3 | 25 => 94 | 3 => 3 | 39 => 241 | 0 => 0 | 53 => 302 | 55 => 280 | 4 => 4 | 46 => 295 | 45 => 294 | 50 => 299 | 5 => 5 | 9 => 9 | 66 => 336 | 70 => 340 | 76 => 360 | 77 => 223 | n => n, fun | n => n⟩
theorem Tryz.laySortInts : Go.Proofs.SlLaysF.n6 Tryz.prog Tryz.laySortInts_ren := {
  mixed := by kernel_rfl
  f6 := ⟨Tryz.f168.name, by decide, Tryz.func168.trans (congrArg some (by kernel_rfl))⟩
  f14 := ⟨Tryz.f247.name, by decide, Tryz.func247.trans (congrArg some (by kernel_rfl))⟩
  f15 := Tryz.func191.trans (congrArg some (by kernel_rfl))
  f20 := ⟨Tryz.f311.name, by decide, Tryz.func311.trans (congrArg some (by kernel_rfl))⟩
  f21 := ⟨Tryz.f312.name, by decide, Tryz.func312.trans (congrArg some (by kernel_rfl))⟩
  f22 := ⟨Tryz.f313.name, by decide, Tryz.func313.trans (congrArg some (by kernel_rfl))⟩
  f23 := ⟨Tryz.f314.name, by decide, Tryz.func314.trans (congrArg some (by kernel_rfl))⟩
  f24 := ⟨Tryz.f315.name, by decide, Tryz.func315.trans (congrArg some (by kernel_rfl))⟩
  f25 := ⟨Tryz.f316.name, by decide, Tryz.func316.trans (congrArg some (by kernel_rfl))⟩
  f26 := ⟨Tryz.f317.name, by decide, Tryz.func317.trans (congrArg some (by kernel_rfl))⟩
  f27 := ⟨Tryz.f318.name, by decide, Tryz.func318.trans (congrArg some (by kernel_rfl))⟩
  f28 := Tryz.func268.trans (congrArg some (by kernel_rfl))
  f29 := Tryz.func269.trans (congrArg some (by kernel_rfl))
  f46 := ⟨Tryz.f352.name, by decide, Tryz.func352.trans (congrArg some (by kernel_rfl))⟩
  f47 := Tryz.func321.trans (congrArg some (by kernel_rfl))
  f48 := Tryz.func322.trans (congrArg some (by kernel_rfl))
  f49 := ⟨Tryz.f353.name, by decide, Tryz.func353.trans (congrArg some (by kernel_rfl))⟩
  f50 := ⟨Tryz.f354.name, by decide, Tryz.func354.trans (congrArg some (by kernel_rfl))⟩
  f57 := ⟨Tryz.f365.name, by decide, Tryz.func365.trans (congrArg some (by kernel_rfl))⟩
  t0 := Tryz.underlying0
  a0 := Tryz.isAgg0
  z0 := Tryz.sizeOf0
  v0 := Tryz.zeroValue0
  t3 := Tryz.underlying3
  a3 := Tryz.isAgg3
  z3 := Tryz.sizeOf3
  v3 := Tryz.zeroValue3
  t4 := Tryz.underlying4
  a4 := Tryz.isAgg4
  z4 := Tryz.sizeOf4
  v4 := Tryz.zeroValue4
  t5 := Tryz.underlying5
  a5 := Tryz.isAgg5
  z5 := Tryz.sizeOf5
  v5 := Tryz.zeroValue5
  t9 := Tryz.underlying9
  a9 := Tryz.isAgg9
  z9 := Tryz.sizeOf9
  v9 := Tryz.zeroValue9
  t22 := Tryz.underlying22
  a22 := Tryz.isAgg22
  z22 := Tryz.sizeOf22
  v22 := Tryz.zeroValue22
  a24 := Tryz.isAgg3
  z24 := Tryz.sizeOf3
  t25 := Tryz.underlying94
  a25 := Tryz.isAgg94
  z25 := Tryz.sizeOf94
  v25 := Tryz.zeroValue94
  t39 := Tryz.underlying241
  a39 := Tryz.isAgg241
  z39 := Tryz.sizeOf241
  v39 := Tryz.zeroValue241
  t45 := Tryz.underlying294
  a45 := Tryz.isAgg294
  z45 := Tryz.sizeOf294
  v45 := Tryz.zeroValue294
  t46 := Tryz.underlying295
  a46 := Tryz.isAgg295
  z46 := Tryz.sizeOf295
  v46 := Tryz.zeroValue295
  t50 := Tryz.underlying299
  a50 := Tryz.isAgg299
  z50 := Tryz.sizeOf299
  v50 := Tryz.zeroValue299
  t53 := Tryz.underlying302
  a53 := Tryz.isAgg302
  z53 := Tryz.sizeOf302
  v53 := Tryz.zeroValue302
  t55 := Tryz.underlying280
  a55 := Tryz.isAgg280
  z55 := Tryz.sizeOf280
  v55 := Tryz.zeroValue280
  t66 := Tryz.underlying336
  a66 := Tryz.isAgg336
  z66 := Tryz.sizeOf336
  v66 := Tryz.zeroValue336
  t70 := Tryz.underlying340
  a70 := Tryz.isAgg340
  z70 := Tryz.sizeOf340
  v70 := Tryz.zeroValue340
  t76 := Tryz.underlying360
  a76 := Tryz.isAgg360
  z76 := Tryz.sizeOf360
  v76 := Tryz.zeroValue360
  t77 := Tryz.underlying223
  a77 := Tryz.isAgg223
  z77 := Tryz.sizeOf223
  v77 := Tryz.zeroValue223 }
end Go.Proofs
