/- Contract: Faces (overlay). -/
import Derived.RangeFuncNested
import Derived.Maps.OwnIn
import Derived.Maps.Views
import Derived.Lib.SlKeysI
import Derived.WideKeyEntry
import Derived.RangeFuncBound
import Derived.RangeFuncCalls
import Derived.RangeFuncLeaves
import Derived.Shelf.Abstract
import Derived.Shelf.RegionOpen
import Derived.OwnWalkIn
import Derived.TacticsInMore
import Derived.LoopNIn
import Derived.LoopIn
import Derived.Sort.CutIn
import Derived.Deep.OwnRows
import Derived.Maps.Range
import Derived.Test.YtfmkmhhghmdakaaGreatDoorQA
import Derived.Test.YtfmkmhhghmdakaaGreatDoorQC
import Derived.Test.YtfmkmhhghmdakaaGreatDoorQI
namespace Go.Proofs.YtfmkmhhghmdakaaGreatDoor
open Go.RowKit Go.Maps
set_option linter.unusedVariables false

/-- A value, read as it stands. -/
def VR (v : Value) : Option (DataW Value × List MemPlace) := some (.held v, [])

section
variable {P : Program} {w : World} {k t E : TypeId} {b n : Nat} {D : DataW Value}
theorem held_look (h : w.ownsMap P k VR b n D) (K : Keyed P k) (ht : P.underlying t = some (.map k E)) {z : Value} (hz : (zeroValue E).run P w = .ok z w) {key : Value} {kl : Lit} (hkey : keyOf P k key = some kl) {v : Value} (hat : D.atKey kl (.held z) = .held v) :
    (Instr.lookup t (.map (some b)) key false).run P w = .ok v w := by
  obtain ⟨u, ps, hrun, hu⟩ := h.lookup K ht hz (zd := .held z) (zp := []) rfl hkey
  rw [hat] at hu
  simp only [VR, Option.some.injEq, Prod.mk.injEq, DataW.held.injEq] at hu
  rw [hrun, hu.1]
end

theorem Below.grown_none {w w' : World} (h : Below w.heap.size w w') : w.grownBy w' none := ⟨h.os, h.tape, h.output, h.size, fun k hk _ => h.block k hk⟩
end Go.Proofs.YtfmkmhhghmdakaaGreatDoor
namespace Go.Proofs.YtfmkmhhghmdakaaGreatDoor
open Go.RowKit Go.Shelf
set_option linter.unusedVariables false
set_option linter.unusedSimpArgs false

end Go.Proofs.YtfmkmhhghmdakaaGreatDoor
namespace Go.Proofs.YtfmkmhhghmdakaaGreatDoor
open Go.RowKit Go.Shelf
set_option linter.unusedVariables false
set_option linter.unusedSimpArgs false

end Go.Proofs.YtfmkmhhghmdakaaGreatDoor
namespace Go.Proofs.YtfmkmhhghmdakaaGreatDoor
open Go.RowKit Go.Shelf
set_option linter.unusedVariables false
set_option linter.unusedSimpArgs false
attribute [local go_sem] Oper.semAt_some

end Go.Proofs.YtfmkmhhghmdakaaGreatDoor
namespace Go.Proofs.YtfmkmhhghmdakaaGreatDoor
open Go.RowKit Go.Shelf Go.Maps
set_option linter.unusedVariables false
set_option linter.unusedSimpArgs false

theorem lit_ne {s t : Int} (h : s ≠ t) : (Lit.int .i64 s) ≠ .int .i64 t := fun e => h (by injection e)
/-! ## Rows of faces -/
abbrev FL := List (Fc × LV)
section
variable {w w' : World} {base : Nat} {v : Value} {l : FL}
end
end Go.Proofs.YtfmkmhhghmdakaaGreatDoor
namespace Go.Proofs.YtfmkmhhghmdakaaGreatDoor
open Go.RowKit Go.Shelf Go.Maps
set_option linter.unusedVariables false
set_option linter.unusedSimpArgs false
attribute [local go_sem] Oper.semAt_some

theorem lawIntO : Keyed Tryz.prog 3 := int_keyed Tryz.underlying3
end Go.Proofs.YtfmkmhhghmdakaaGreatDoor
