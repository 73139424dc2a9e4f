/- The closed facts of the card of landaidtop.TopRotation. -/
import Derived.Test.YtfmkmhhghmdakaaGreatDoorRows
import Derived.Test.YtfmkmhhghmdakaaGreatDoorCards
import Derived.SevenTiedAt
import Derived.JoinedOf
import Derived.KernelRfl
namespace Go.Proofs.YtfmkmhhghmdakaaGreatDoor.topRotation
open Go
set_option maxRecDepth 100000
theorem wfF : Rows.topRotationRow.wfByText (OpenSpec.ofChange Rows.topRotationSpec) = true := by kernel_rfl
theorem mainF : Tryz.pinned.checked.prog.mainIs = some (Rows.topRotationCard.stood.harness.1, Rows.topRotationCard.stood.harness.2.toList) := by kernel_rfl
theorem looksF : false = Tryz.pinned.checked.prog.looks [] := by kernel_rfl
theorem goesF : false = Rows.topRotationRow.goesBy Tryz.pinned.checked.prog := by kernel_rfl
theorem standF : ([22, 5].all fun u => !Tryz.prog.wantsStandIn u) = true := by kernel_rfl
end Go.Proofs.YtfmkmhhghmdakaaGreatDoor.topRotation
