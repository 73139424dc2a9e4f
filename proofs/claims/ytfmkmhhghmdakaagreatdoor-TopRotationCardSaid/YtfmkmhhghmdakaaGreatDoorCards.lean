/-
  DERIVED. GIVEN WITH THE SEED: THE CARDS: each row of YtfmkmhhghmdakaaGreatDoorRows.lean that lists a variable, with what it lists TIED to the program's text (the seventh form; the later family's looks); each row that meets fmt, with fmt's text TOLD by the authors' own Lean function (tested against real Go, not proved from fmt's source: count such statements apart). THE CARD IS WHAT COUNTS. Prove the row's statement (the work); the ties are given (YtfmkmhhghmdakaaGreatDoorTie.lean); close each card by the builder's one call (the guide's Derived/Test/ToyasCard.lean, 'card_holds'). Laid BY PROGRAM, IN A SANDBOX (cutbox-door.mjs). By AI agents, Wed Nov 11 2026. No macro, syntax, notation, axiom, sorry.
-/
import Derived.Test.YtfmkmhhghmdakaaGreatDoorRows
import GoSem.ClaimSeven
namespace Go.Proofs.YtfmkmhhghmdakaaGreatDoor
namespace Rows

/-- THE TIED CARD OF 'landaidtop.TopMeasured'. -/
def topMeasuredCard : Claim7 := { stood := { row := topMeasuredRow, standIns := [], harness := (true, "f2b7e0bd792ba452be088d89f8ddd71722820fceffc050033855b8a943fc3ce9"), looks := false }, kinds := [], alts := [], laidByText := true, laidKinds := [.data, .pinned], laidTests := true, laidLooks := .later }
def TopMeasuredCardSaid : Prop := Claim7.holds Tryz.pinned (.plain (OpenSpec.ofChange topMeasuredSpec)) topMeasuredCard

/-- THE TIED CARD OF 'landaidtop.TopZones'. -/
def topZonesCard : Claim7 := { stood := { row := topZonesRow, standIns := [], harness := (true, "f2b7e0bd792ba452be088d89f8ddd71722820fceffc050033855b8a943fc3ce9"), looks := false }, kinds := [], alts := [], laidByText := true, laidKinds := [.data, .pinned], laidTests := true, laidLooks := .later }
def TopZonesCardSaid : Prop := Claim7.holds Tryz.pinned (.plain (OpenSpec.ofChange topZonesSpec)) topZonesCard

/-- THE TIED CARD OF 'landaidtop.TopGrass'. -/
def topGrassCard : Claim7 := { stood := { row := topGrassRow, standIns := [], harness := (true, "f2b7e0bd792ba452be088d89f8ddd71722820fceffc050033855b8a943fc3ce9"), looks := false }, kinds := [], alts := [], laidByText := true, laidKinds := [.data, .pinned], laidTests := true, laidLooks := .later }
def TopGrassCardSaid : Prop := Claim7.holds Tryz.pinned (.plain (OpenSpec.ofChange topGrassSpec)) topGrassCard

/-- THE TIED CARD OF 'landaidtop.TopRotation'. -/
def topRotationCard : Claim7 := { stood := { row := topRotationRow, standIns := [], harness := (true, "f2b7e0bd792ba452be088d89f8ddd71722820fceffc050033855b8a943fc3ce9"), looks := false }, kinds := [], alts := [], laidByText := true, laidKinds := [.data, .pinned], laidTests := true, laidLooks := .later }
def TopRotationCardSaid : Prop := Claim7.holds Tryz.pinned (.plain (OpenSpec.ofChange topRotationSpec)) topRotationCard

/-- THE SECOND FORM's CARD OF 'landaidtop.TopMeasured'. -/
def topMeasuredUptoCard : Claim7 := { stood := { row := topMeasuredUptoRow, standIns := [], harness := (true, "f2b7e0bd792ba452be088d89f8ddd71722820fceffc050033855b8a943fc3ce9"), looks := false }, kinds := [], alts := [], laidByText := true, laidKinds := [.data, .pinned], laidTests := true, laidLooks := .later }
def TopMeasuredUptoCardSaid : Prop := Claim7.holds Tryz.pinned (.plain (OpenSpec.upto topMeasuredSpec)) topMeasuredUptoCard

/-- THE SECOND FORM's CARD OF 'landaidtop.TopZones'. -/
def topZonesUptoCard : Claim7 := { stood := { row := topZonesUptoRow, standIns := [], harness := (true, "f2b7e0bd792ba452be088d89f8ddd71722820fceffc050033855b8a943fc3ce9"), looks := false }, kinds := [], alts := [], laidByText := true, laidKinds := [.data, .pinned], laidTests := true, laidLooks := .later }
def TopZonesUptoCardSaid : Prop := Claim7.holds Tryz.pinned (.plain (OpenSpec.upto topZonesSpec)) topZonesUptoCard

/-- THE SECOND FORM's CARD OF 'landaidtop.TopGrass'. -/
def topGrassUptoCard : Claim7 := { stood := { row := topGrassUptoRow, standIns := [], harness := (true, "f2b7e0bd792ba452be088d89f8ddd71722820fceffc050033855b8a943fc3ce9"), looks := false }, kinds := [], alts := [], laidByText := true, laidKinds := [.data, .pinned], laidTests := true, laidLooks := .later }
def TopGrassUptoCardSaid : Prop := Claim7.holds Tryz.pinned (.plain (OpenSpec.upto topGrassSpec)) topGrassUptoCard

/-- THE SECOND FORM's CARD OF 'landaidtop.TopRotation'. -/
def topRotationUptoCard : Claim7 := { stood := { row := topRotationUptoRow, standIns := [], harness := (true, "f2b7e0bd792ba452be088d89f8ddd71722820fceffc050033855b8a943fc3ce9"), looks := false }, kinds := [], alts := [], laidByText := true, laidKinds := [.data, .pinned], laidTests := true, laidLooks := .later }
def TopRotationUptoCardSaid : Prop := Claim7.holds Tryz.pinned (.plain (OpenSpec.upto topRotationSpec)) topRotationUptoCard
end Rows
end Go.Proofs.YtfmkmhhghmdakaaGreatDoor
