/-
  DERIVED: THE SHELF's CONTRACTS AT THIS DUMP, IN PLAIN WORDS (tools/lay-plain.mjs out of 'YtfmkmhhghmdakaaGreatDoorShelf07.lean', which tools/lay-shelf.mjs wrote): THE SAME DECLARATIONS UNDER THE SAME NAMES: 'import', 'namespace', 'open', 'def', 'theorem' AND NOTHING ELSE: no command of the shelf's: FOR A HAND-IN. Each laying: the table of numbers ('.._ren') and one theorem, a field a fact of the dump's own or the kernel's comparison; each contract: ONE APPLICATION.
-/
import Derived.Shelf.SortM.Plain
import Derived.Shelf.SortM.SortNone
import Derived.Shelf.SlicesQ.IndexFunc
import Derived.Shelf.SlIterI.Nil
import Derived.Test.YtfmkmhhghmdakaaGreatDoorProg
namespace Go.Proofs
open Go.Shelf
def Tryz.layContainsRegion_ren : Go.Shelf.Ren := ⟨fun | 8 => 71 | 6 => 177 | n => n, fun | 22 => 26 | 23 => 33 | 25 => 99 | 4 => 4 | 3 => 3 | 0 => 0 | n => n, fun | n => n⟩
theorem Tryz.layContainsRegion : Go.Proofs.SlLaysH0.n8 Tryz.prog Tryz.layContainsRegion_ren := {
  mixed := by kernel_rfl
  f6 := ⟨Tryz.f177.name, by decide, Tryz.func177.trans (congrArg some (by kernel_rfl))⟩
  f8 := ⟨Tryz.f71.name, by decide, Tryz.func71.trans (congrArg some (by kernel_rfl))⟩
  t0 := Tryz.underlying0
  a0 := Tryz.isAgg0
  z0 := Tryz.sizeOf0
  v0 := Tryz.zeroValue0
  t3 := Tryz.underlying3
  a3 := Tryz.isAgg3
  z3 := Tryz.sizeOf3
  v3 := Tryz.zeroValue3
  t4 := Tryz.underlying4
  a4 := Tryz.isAgg4
  z4 := Tryz.sizeOf4
  v4 := Tryz.zeroValue4
  t22 := Tryz.underlying26
  a22 := Tryz.isAgg26
  z22 := Tryz.sizeOf26
  v22 := Tryz.zeroValue26
  t25 := Tryz.underlying99
  a25 := Tryz.isAgg99
  z25 := Tryz.sizeOf99
  v25 := Tryz.zeroValue99 }
def Tryz.sortedA_ren : Go.Shelf.Ren := ⟨fun | 6 => 74 | 8 => 181 | 9 => 85 | 11 => 252 | 13 => 191 | 12 => 190 | 23 => 268 | 24 => 269 | 14 => 259 | 15 => 260 | 16 => 261 | 17 => 262 | 18 => 263 | 19 => 264 | 20 => 265 | 21 => 266 | 22 => 267 | 25 => 320 | 26 => 321 | 27 => 322 | 28 => 323 | 29 => 324 | 30 => 248 | 31 => 355 | n => n, fun | 26 => 3 | 28 => 138 | 24 => 22 | 0 => 0 | 3 => 3 | 37 => 241 | 48 => 302 | 50 => 280 | 4 => 4 | 40 => 295 | 39 => 294 | 45 => 299 | 5 => 5 | 9 => 9 | 51 => 336 | 55 => 340 | 57 => 360 | 58 => 223 | 33 => 156 | n => n, fun | n => n⟩
theorem Tryz.sortedA : Go.Proofs.SlLaysZI.n6 Tryz.prog Tryz.sortedA_ren := {
  mixed := by kernel_rfl
  f6 := ⟨Tryz.f74.name, by decide, Tryz.func74.trans (congrArg some (by kernel_rfl))⟩
  f8 := ⟨Tryz.f181.name, by decide, Tryz.func181.trans (congrArg some (by kernel_rfl))⟩
  f11 := ⟨Tryz.f252.name, by decide, Tryz.func252.trans (congrArg some (by kernel_rfl))⟩
  t0 := Tryz.underlying0
  a0 := Tryz.isAgg0
  z0 := Tryz.sizeOf0
  v0 := Tryz.zeroValue0
  t24 := Tryz.underlying22
  a24 := Tryz.isAgg22
  z24 := Tryz.sizeOf22
  v24 := Tryz.zeroValue22
  t26 := Tryz.underlying3
  a26 := Tryz.isAgg3
  z26 := Tryz.sizeOf3
  v26 := Tryz.zeroValue3
  t28 := Tryz.underlying138
  a28 := Tryz.isAgg138
  z28 := Tryz.sizeOf138
  v28 := Tryz.zeroValue138
  i26 := by kernel_rfl }
def Tryz.keysA_ren : Go.Shelf.Ren := ⟨fun | 7 => 75 | 10 => 182 | n => n, fun | 23 => 132 | 26 => 3 | 3 => 31 | 28 => 138 | 0 => 0 | 27 => 137 | 33 => 156 | 4 => 4 | n => n, fun | n => n⟩
theorem Tryz.keysA : Go.Proofs.SlLaysZI.n7 Tryz.prog Tryz.keysA_ren := {
  mixed := by kernel_rfl
  f7 := ⟨Tryz.f75.name, by decide, Tryz.func75.trans (congrArg some (by kernel_rfl))⟩
  f10 := ⟨Tryz.f182.name, by decide, Tryz.func182.trans (congrArg some (by kernel_rfl))⟩
  t0 := Tryz.underlying0
  a0 := Tryz.isAgg0
  z0 := Tryz.sizeOf0
  v0 := Tryz.zeroValue0
  t4 := Tryz.underlying4
  a4 := Tryz.isAgg4
  z4 := Tryz.sizeOf4
  v4 := Tryz.zeroValue4
  t23 := Tryz.underlying132
  a23 := Tryz.isAgg132
  z23 := Tryz.sizeOf132
  v23 := Tryz.zeroValue132
  t26 := Tryz.underlying3
  a26 := Tryz.isAgg3
  z26 := Tryz.sizeOf3
  v26 := Tryz.zeroValue3
  t27 := Tryz.underlying137
  a27 := Tryz.isAgg137
  z27 := Tryz.sizeOf137
  v27 := Tryz.zeroValue137
  t28 := Tryz.underlying138
  a28 := Tryz.isAgg138
  z28 := Tryz.sizeOf138
  v28 := Tryz.zeroValue138
  t33 := Tryz.underlying156
  a33 := Tryz.isAgg156
  z33 := Tryz.sizeOf156
  v33 := Tryz.zeroValue156 }
end Go.Proofs
