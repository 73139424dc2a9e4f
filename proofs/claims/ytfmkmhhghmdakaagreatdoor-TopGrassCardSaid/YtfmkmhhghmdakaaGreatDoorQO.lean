/- The closed facts of the card of landaidtop.TopGrass. -/
import Derived.Test.YtfmkmhhghmdakaaGreatDoorRows
import Derived.Test.YtfmkmhhghmdakaaGreatDoorCards
import Derived.SevenTiedAt
import Derived.JoinedOf
import Derived.KernelRfl
namespace Go.Proofs.YtfmkmhhghmdakaaGreatDoor.topGrass
open Go
set_option maxRecDepth 100000
theorem wfF : Rows.topGrassRow.wfByText (OpenSpec.ofChange Rows.topGrassSpec) = true := by kernel_rfl
theorem mainF : Tryz.pinned.checked.prog.mainIs = some (Rows.topGrassCard.stood.harness.1, Rows.topGrassCard.stood.harness.2.toList) := by kernel_rfl
theorem looksF : false = Tryz.pinned.checked.prog.looks [] := by kernel_rfl
theorem goesF : false = Rows.topGrassRow.goesBy Tryz.pinned.checked.prog := by kernel_rfl
theorem standF : ([22, 5].all fun u => !Tryz.prog.wantsStandIn u) = true := by kernel_rfl
end Go.Proofs.YtfmkmhhghmdakaaGreatDoor.topGrass
