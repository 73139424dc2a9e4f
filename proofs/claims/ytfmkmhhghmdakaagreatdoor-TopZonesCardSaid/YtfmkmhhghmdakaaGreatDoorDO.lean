/- The closed facts of the card of landaidtop.TopZones. -/
import Derived.Test.YtfmkmhhghmdakaaGreatDoorRows
import Derived.Test.YtfmkmhhghmdakaaGreatDoorCards
import Derived.SevenTiedAt
import Derived.JoinedOf
import Derived.KernelRfl
namespace Go.Proofs.YtfmkmhhghmdakaaGreatDoor.topZones
open Go
set_option maxRecDepth 100000
theorem wfF : Rows.topZonesRow.wfByText (OpenSpec.ofChange Rows.topZonesSpec) = true := by kernel_rfl
theorem mainF : Tryz.pinned.checked.prog.mainIs = some (Rows.topZonesCard.stood.harness.1, Rows.topZonesCard.stood.harness.2.toList) := by kernel_rfl
theorem looksF : false = Tryz.pinned.checked.prog.looks [] := by kernel_rfl
theorem goesF : false = Rows.topZonesRow.goesBy Tryz.pinned.checked.prog := by kernel_rfl
theorem standF : ([22, 5].all fun u => !Tryz.prog.wantsStandIn u) = true := by kernel_rfl
end Go.Proofs.YtfmkmhhghmdakaaGreatDoor.topZones
