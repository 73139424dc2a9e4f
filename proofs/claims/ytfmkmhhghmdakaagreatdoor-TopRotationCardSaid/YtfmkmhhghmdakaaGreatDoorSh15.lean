/-
  DERIVED: THE SHELF's CONTRACTS AT THIS DUMP, IN PLAIN WORDS (tools/lay-plain.mjs out of 'YtfmkmhhghmdakaaGreatDoorShelf15.lean', which tools/lay-shelf.mjs wrote): THE SAME DECLARATIONS UNDER THE SAME NAMES: 'import', 'namespace', 'open', 'def', 'theorem' AND NOTHING ELSE: no command of the shelf's: FOR A HAND-IN. Each laying: the table of numbers ('.._ren') and one theorem, a field a fact of the dump's own or the kernel's comparison; each contract: ONE APPLICATION.
-/
import Derived.Shelf.SortM.Plain
import Derived.Shelf.SortM.SortNone
import Derived.Shelf.SlicesG.CompactI
import Derived.Shelf.SlicesG.Cmp
import Derived.Shelf.SlSortCmp.WholeK
import Derived.Shelf.SlSortCmp.NoneTotal
import Derived.Shelf.SlicesQ.Equal
import Derived.Shelf.SlicesQ.IndexFunc
import Derived.Test.YtfmkmhhghmdakaaGreatDoorProg
namespace Go.Proofs
open Go.Shelf
def Tryz.laySortRc_ren : Go.Shelf.Ren := ⟨fun | 6 => 118 | 15 => 191 | 14 => 209 | 28 => 268 | 29 => 269 | 20 => 283 | 21 => 284 | 22 => 285 | 23 => 286 | 24 => 287 | 25 => 288 | 26 => 289 | 27 => 290 | 46 => 333 | 47 => 321 | 48 => 322 | 49 => 334 | 50 => 335 | 57 => 358 | n => n, fun | 22 => 72 | 24 => 172 | 25 => 178 | 3 => 3 | 39 => 241 | 0 => 0 | 53 => 302 | 55 => 280 | 4 => 4 | 46 => 295 | 45 => 294 | 50 => 299 | 5 => 5 | 9 => 9 | 66 => 336 | 70 => 340 | 76 => 360 | 77 => 223 | n => n, fun | n => n⟩
theorem Tryz.laySortRc : Go.Proofs.SlLaysF0.n6 Tryz.prog Tryz.laySortRc_ren := {
  mixed := by kernel_rfl
  f6 := ⟨Tryz.f118.name, by decide, Tryz.func118.trans (congrArg some (by kernel_rfl))⟩
  f14 := ⟨Tryz.f209.name, by decide, Tryz.func209.trans (congrArg some (by kernel_rfl))⟩
  f15 := Tryz.func191.trans (congrArg some (by kernel_rfl))
  f20 := ⟨Tryz.f283.name, by decide, Tryz.func283.trans (congrArg some (by kernel_rfl))⟩
  f21 := ⟨Tryz.f284.name, by decide, Tryz.func284.trans (congrArg some (by kernel_rfl))⟩
  f22 := ⟨Tryz.f285.name, by decide, Tryz.func285.trans (congrArg some (by kernel_rfl))⟩
  f23 := ⟨Tryz.f286.name, by decide, Tryz.func286.trans (congrArg some (by kernel_rfl))⟩
  f24 := ⟨Tryz.f287.name, by decide, Tryz.func287.trans (congrArg some (by kernel_rfl))⟩
  f25 := ⟨Tryz.f288.name, by decide, Tryz.func288.trans (congrArg some (by kernel_rfl))⟩
  f26 := ⟨Tryz.f289.name, by decide, Tryz.func289.trans (congrArg some (by kernel_rfl))⟩
  f27 := ⟨Tryz.f290.name, by decide, Tryz.func290.trans (congrArg some (by kernel_rfl))⟩
  f28 := Tryz.func268.trans (congrArg some (by kernel_rfl))
  f29 := Tryz.func269.trans (congrArg some (by kernel_rfl))
  f46 := ⟨Tryz.f333.name, by decide, Tryz.func333.trans (congrArg some (by kernel_rfl))⟩
  f47 := Tryz.func321.trans (congrArg some (by kernel_rfl))
  f48 := Tryz.func322.trans (congrArg some (by kernel_rfl))
  f49 := ⟨Tryz.f334.name, by decide, Tryz.func334.trans (congrArg some (by kernel_rfl))⟩
  f50 := ⟨Tryz.f335.name, by decide, Tryz.func335.trans (congrArg some (by kernel_rfl))⟩
  f57 := ⟨Tryz.f358.name, by decide, Tryz.func358.trans (congrArg some (by kernel_rfl))⟩
  t0 := Tryz.underlying0
  a0 := Tryz.isAgg0
  z0 := Tryz.sizeOf0
  v0 := Tryz.zeroValue0
  t3 := Tryz.underlying3
  a3 := Tryz.isAgg3
  z3 := Tryz.sizeOf3
  v3 := Tryz.zeroValue3
  t4 := Tryz.underlying4
  a4 := Tryz.isAgg4
  z4 := Tryz.sizeOf4
  v4 := Tryz.zeroValue4
  t5 := Tryz.underlying5
  a5 := Tryz.isAgg5
  z5 := Tryz.sizeOf5
  v5 := Tryz.zeroValue5
  t9 := Tryz.underlying9
  a9 := Tryz.isAgg9
  z9 := Tryz.sizeOf9
  v9 := Tryz.zeroValue9
  t22 := Tryz.underlying72
  a22 := Tryz.isAgg72
  z22 := Tryz.sizeOf72
  v22 := Tryz.zeroValue72
  t25 := Tryz.underlying178
  a25 := Tryz.isAgg178
  z25 := Tryz.sizeOf178
  v25 := Tryz.zeroValue178
  t39 := Tryz.underlying241
  a39 := Tryz.isAgg241
  z39 := Tryz.sizeOf241
  v39 := Tryz.zeroValue241
  t45 := Tryz.underlying294
  a45 := Tryz.isAgg294
  z45 := Tryz.sizeOf294
  v45 := Tryz.zeroValue294
  t46 := Tryz.underlying295
  a46 := Tryz.isAgg295
  z46 := Tryz.sizeOf295
  v46 := Tryz.zeroValue295
  t50 := Tryz.underlying299
  a50 := Tryz.isAgg299
  z50 := Tryz.sizeOf299
  v50 := Tryz.zeroValue299
  t53 := Tryz.underlying302
  a53 := Tryz.isAgg302
  z53 := Tryz.sizeOf302
  v53 := Tryz.zeroValue302
  t55 := Tryz.underlying280
  a55 := Tryz.isAgg280
  z55 := Tryz.sizeOf280
  v55 := Tryz.zeroValue280
  t66 := Tryz.underlying336
  a66 := Tryz.isAgg336
  z66 := Tryz.sizeOf336
  v66 := Tryz.zeroValue336
  t70 := Tryz.underlying340
  a70 := Tryz.isAgg340
  z70 := Tryz.sizeOf340
  v70 := Tryz.zeroValue340
  t76 := Tryz.underlying360
  a76 := Tryz.isAgg360
  z76 := Tryz.sizeOf360
  v76 := Tryz.zeroValue360
  t77 := Tryz.underlying223
  a77 := Tryz.isAgg223
  z77 := Tryz.sizeOf223
  v77 := Tryz.zeroValue223 }
end Go.Proofs
