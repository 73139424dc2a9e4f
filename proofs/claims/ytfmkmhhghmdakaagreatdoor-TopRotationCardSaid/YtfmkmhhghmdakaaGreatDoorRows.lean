/-
  NARROWER THAN 'FOR EVERY INPUT', by the rows' own cells (each row's printed sentence says how): TopMeasured: laid · TopZones: laid · TopGrass: laid · TopRotation: laid.
  DERIVED. THE GIVEN ROWS OF THIS SEAT. 4 by the template 'for every input the law returns true; each argument reads behind the call as it read before'; 0 by the template 'total and deterministic' (their statements: YtfmkmhhghmdakaaGreatDoorTotals.lean).
  GIVEN WITH THE SEED: the statements are not yours to turn. If you find one false, say at which input.
  Laid BY PROGRAM, IN A SANDBOX (cutbox-rows.mjs): the forced cells as the released guide's own fill.sh prints them over the translation c7c9d402e8b36e13… (all of the seat's roots in one cut). By AI agents, Wed Nov 11 2026. No macro, syntax, notation, axiom, sorry.
-/
import Derived.Test.YtfmkmhhghmdakaaGreatDoorChecked
import GoSem.PinnedTables
import GoSem.Claim
import GoSem.ClaimJoined
import GoSem.ClaimMapViews
import Derived.JoinedTies
import Derived.KernelRfl
namespace Go.Proofs.YtfmkmhhghmdakaaGreatDoor
/- THE CELL 'sum', in the pinned program and in every row, IS THE sha256 OF THE DUMP (.gsa) THAT YtfmkmhhghmdakaaGreatDoorProg.lean LOADS. Nothing in Lean hashes anything: it is a label: what it is worth is what the hold of that sum in a sandbox is worth. -/
noncomputable def Tryz.pinned : Pinned := { name := "ytfmkmhhghmdakaagreatdoor", sum := "c7c9d402e8b36e137efb23a7e0d8152ef2c2748f918c63a7f5c7ce2032438d17", checked := Tryz.checked }
namespace Rows
def none {H : Type} : Left H := { results := [], args := [] }

/- WHAT THE LISTED PACKAGE-LEVEL VARIABLES READ AS WHEN THE CALL BEGINS. Each datum BY PROGRAM (the guide's laid-datum.mjs) off the statement by which the dump's own 'gosem.cut.vars' lays the variable. In a bare row this is a premise. The card (YtfmkmhhghmdakaaGreatDoorCards.lean) ties it to the program's text. -/
def laid_unicode_utf8_acceptRanges {H : Type} : DataW H := .agg [.agg [.lit (.int .u8 128), .lit (.int .u8 191)], .agg [.lit (.int .u8 160), .lit (.int .u8 191)], .agg [.lit (.int .u8 128), .lit (.int .u8 159)], .agg [.lit (.int .u8 144), .lit (.int .u8 191)], .agg [.lit (.int .u8 128), .lit (.int .u8 143)], .agg [.lit (.int .u8 0), .lit (.int .u8 0)], .agg [.lit (.int .u8 0), .lit (.int .u8 0)], .agg [.lit (.int .u8 0), .lit (.int .u8 0)], .agg [.lit (.int .u8 0), .lit (.int .u8 0)], .agg [.lit (.int .u8 0), .lit (.int .u8 0)], .agg [.lit (.int .u8 0), .lit (.int .u8 0)], .agg [.lit (.int .u8 0), .lit (.int .u8 0)], .agg [.lit (.int .u8 0), .lit (.int .u8 0)], .agg [.lit (.int .u8 0), .lit (.int .u8 0)], .agg [.lit (.int .u8 0), .lit (.int .u8 0)], .agg [.lit (.int .u8 0), .lit (.int .u8 0)]]
/-- One of Go's own tables, pinned by name: the form's constant. -/
def laid_unicode_utf8_first : DataW Unit := Go.Pinned.utf8First

/-- 'landaidtop.TopMeasured': WHATEVER THE INPUT: true; the input reads as it did. -/
def topMeasuredSpec : ChangeSpec := { name := "topMeasured", fn := fun _ => fun
  | [d1, d2] => { results := [.lit (.bool true)], args := [d1, d2] }
  | _ => none }
def topMeasuredRow : OpenClaim := { program := "ytfmkmhhghmdakaagreatdoor", sum := "c7c9d402e8b36e137efb23a7e0d8152ef2c2748f918c63a7f5c7ce2032438d17", func := "landaid/landaidtop.TopMeasured", spec := "topMeasured", inPlace := ["internal/bytealg.CountString", "internal/bytealg.IndexByteString", "internal/bytealg.IndexString"], unfollowed := true, recurses := true, named := ["internal/bytealg.MaxLen", "unicode/utf8.first", "unicode/utf8.acceptRanges", "math/bits.divideError", "math/bits.overflowError"], plainKeys := false, apart := false, laid := [("unicode/utf8.acceptRanges", laid_unicode_utf8_acceptRanges), ("unicode/utf8.first", laid_unicode_utf8_first)] }
def TopMeasuredSaid : Prop := topMeasuredRow.holds Tryz.pinned (OpenSpec.ofChange topMeasuredSpec)

/-- ITS FALSE NEIGHBOUR: 'it returns false'. Refute it at one input. -/
def topMeasuredWrong : ChangeSpec := { name := "topMeasured", fn := fun _ => fun
  | [d1, d2] => { results := [.lit (.bool false)], args := [d1, d2] }
  | _ => none }
def TopMeasuredWrongFalsely : Prop := topMeasuredRow.holds Tryz.pinned (OpenSpec.ofChange topMeasuredWrong)

/-- 'landaidtop.TopZones': WHATEVER THE INPUT: true; the input reads as it did. -/
def topZonesSpec : ChangeSpec := { name := "topZones", fn := fun _ => fun
  | [d1, d2] => { results := [.lit (.bool true)], args := [d1, d2] }
  | _ => none }
def topZonesRow : OpenClaim := { program := "ytfmkmhhghmdakaagreatdoor", sum := "c7c9d402e8b36e137efb23a7e0d8152ef2c2748f918c63a7f5c7ce2032438d17", func := "landaid/landaidtop.TopZones", spec := "topZones", inPlace := ["internal/bytealg.CountString", "internal/bytealg.IndexByteString", "internal/bytealg.IndexString"], unfollowed := true, recurses := true, named := ["internal/bytealg.MaxLen", "unicode/utf8.first", "unicode/utf8.acceptRanges", "math/bits.divideError", "math/bits.overflowError"], plainKeys := false, apart := false, laid := [("unicode/utf8.acceptRanges", laid_unicode_utf8_acceptRanges), ("unicode/utf8.first", laid_unicode_utf8_first)] }
def TopZonesSaid : Prop := topZonesRow.holds Tryz.pinned (OpenSpec.ofChange topZonesSpec)

/-- ITS FALSE NEIGHBOUR: 'it returns false'. Refute it at one input. -/
def topZonesWrong : ChangeSpec := { name := "topZones", fn := fun _ => fun
  | [d1, d2] => { results := [.lit (.bool false)], args := [d1, d2] }
  | _ => none }
def TopZonesWrongFalsely : Prop := topZonesRow.holds Tryz.pinned (OpenSpec.ofChange topZonesWrong)

/-- 'landaidtop.TopGrass': WHATEVER THE INPUT: true; the input reads as it did. -/
def topGrassSpec : ChangeSpec := { name := "topGrass", fn := fun _ => fun
  | [d1, d2] => { results := [.lit (.bool true)], args := [d1, d2] }
  | _ => none }
def topGrassRow : OpenClaim := { program := "ytfmkmhhghmdakaagreatdoor", sum := "c7c9d402e8b36e137efb23a7e0d8152ef2c2748f918c63a7f5c7ce2032438d17", func := "landaid/landaidtop.TopGrass", spec := "topGrass", inPlace := ["internal/bytealg.CountString", "internal/bytealg.IndexByteString", "internal/bytealg.IndexString"], unfollowed := true, recurses := true, named := ["internal/bytealg.MaxLen", "unicode/utf8.first", "unicode/utf8.acceptRanges", "math/bits.divideError", "math/bits.overflowError"], plainKeys := false, apart := false, laid := [("unicode/utf8.acceptRanges", laid_unicode_utf8_acceptRanges), ("unicode/utf8.first", laid_unicode_utf8_first)] }
def TopGrassSaid : Prop := topGrassRow.holds Tryz.pinned (OpenSpec.ofChange topGrassSpec)

/-- ITS FALSE NEIGHBOUR: 'it returns false'. Refute it at one input. -/
def topGrassWrong : ChangeSpec := { name := "topGrass", fn := fun _ => fun
  | [d1, d2] => { results := [.lit (.bool false)], args := [d1, d2] }
  | _ => none }
def TopGrassWrongFalsely : Prop := topGrassRow.holds Tryz.pinned (OpenSpec.ofChange topGrassWrong)

/-- 'landaidtop.TopRotation': WHATEVER THE INPUT: true; the input reads as it did. -/
def topRotationSpec : ChangeSpec := { name := "topRotation", fn := fun _ => fun
  | [d1, d2] => { results := [.lit (.bool true)], args := [d1, d2] }
  | _ => none }
def topRotationRow : OpenClaim := { program := "ytfmkmhhghmdakaagreatdoor", sum := "c7c9d402e8b36e137efb23a7e0d8152ef2c2748f918c63a7f5c7ce2032438d17", func := "landaid/landaidtop.TopRotation", spec := "topRotation", inPlace := ["internal/bytealg.CountString", "internal/bytealg.IndexByteString", "internal/bytealg.IndexString"], unfollowed := true, recurses := true, named := ["internal/bytealg.MaxLen", "unicode/utf8.first", "unicode/utf8.acceptRanges", "math/bits.divideError", "math/bits.overflowError"], plainKeys := false, apart := false, laid := [("unicode/utf8.acceptRanges", laid_unicode_utf8_acceptRanges), ("unicode/utf8.first", laid_unicode_utf8_first)] }
def TopRotationSaid : Prop := topRotationRow.holds Tryz.pinned (OpenSpec.ofChange topRotationSpec)

/-- ITS FALSE NEIGHBOUR: 'it returns false'. Refute it at one input. -/
def topRotationWrong : ChangeSpec := { name := "topRotation", fn := fun _ => fun
  | [d1, d2] => { results := [.lit (.bool false)], args := [d1, d2] }
  | _ => none }
def TopRotationWrongFalsely : Prop := topRotationRow.holds Tryz.pinned (OpenSpec.ofChange topRotationWrong)

/- THE SECOND FORM. 'bulk': how many values and letters a reading holds, each counted each time it is reached (what is shared counts as often as it is met; a slice's spare places count too). A statement '..UptoSaid' is the law's where the arguments, and the package variables that the reading takes, are together of bulk at most 1048576: NARROWER than '..Said'. Prove '..Said' where nothing that the law and all that it calls make is longer than what came in: it says more and counts as full. Else prove '..UptoSaid'. A law counts once. -/
mutual
def uptoBulk {H : Type} : DataW H → Nat
  | .lit (.string bytes) => bytes.length + 1
  | .lit _ => 1
  | .nil => 1
  | .ptr d => uptoBulk d + 1
  | .slice elems spare => uptoBulkAll elems + uptoBulkAll spare + 1
  | .agg parts => uptoBulkAll parts + 1
  | .iface _ d => uptoBulk d + 1
  | .map entries => uptoBulkEntries entries + 1
  | .held _ => 1
def uptoBulkAll {H : Type} : List (DataW H) → Nat
  | [] => 0
  | d :: r => uptoBulk d + uptoBulkAll r
def uptoBulkEntries {H : Type} : List (Lit × DataW H) → Nat
  | [] => 0
  | x :: r => uptoBulkEntry x + uptoBulkEntries r
def uptoBulkEntry {H : Type} : Lit × DataW H → Nat
  | (.string bytes, d) => bytes.length + uptoBulk d + 1
  | (_, d) => uptoBulk d + 1
 end
def uptoSmall : (H : Type) → List (DataW H) → Bool := fun _ ds => decide (uptoBulkAll ds ≤ 1048576)
def OpenSpec.upto (s : _root_.Go.ChangeSpec) : _root_.Go.OpenSpec := { _root_.Go.OpenSpec.ofChange s with cond := some uptoSmall }

/-- 'landaidtop.TopMeasured', WHERE WHAT IT READS IS OF BULK AT MOST 1048576: true; the input reads as it did. -/
def topMeasuredUptoRow : OpenClaim := { program := "ytfmkmhhghmdakaagreatdoor", sum := "c7c9d402e8b36e137efb23a7e0d8152ef2c2748f918c63a7f5c7ce2032438d17", func := "landaid/landaidtop.TopMeasured", spec := "topMeasured", inPlace := ["internal/bytealg.CountString", "internal/bytealg.IndexByteString", "internal/bytealg.IndexString"], unfollowed := true, recurses := true, named := ["internal/bytealg.MaxLen", "unicode/utf8.first", "unicode/utf8.acceptRanges", "math/bits.divideError", "math/bits.overflowError"], plainKeys := false, apart := false, laid := [("unicode/utf8.acceptRanges", laid_unicode_utf8_acceptRanges), ("unicode/utf8.first", laid_unicode_utf8_first)], narrowed := true }
def TopMeasuredUptoSaid : Prop := topMeasuredUptoRow.holds Tryz.pinned (OpenSpec.upto topMeasuredSpec)

/-- 'landaidtop.TopZones', WHERE WHAT IT READS IS OF BULK AT MOST 1048576: true; the input reads as it did. -/
def topZonesUptoRow : OpenClaim := { program := "ytfmkmhhghmdakaagreatdoor", sum := "c7c9d402e8b36e137efb23a7e0d8152ef2c2748f918c63a7f5c7ce2032438d17", func := "landaid/landaidtop.TopZones", spec := "topZones", inPlace := ["internal/bytealg.CountString", "internal/bytealg.IndexByteString", "internal/bytealg.IndexString"], unfollowed := true, recurses := true, named := ["internal/bytealg.MaxLen", "unicode/utf8.first", "unicode/utf8.acceptRanges", "math/bits.divideError", "math/bits.overflowError"], plainKeys := false, apart := false, laid := [("unicode/utf8.acceptRanges", laid_unicode_utf8_acceptRanges), ("unicode/utf8.first", laid_unicode_utf8_first)], narrowed := true }
def TopZonesUptoSaid : Prop := topZonesUptoRow.holds Tryz.pinned (OpenSpec.upto topZonesSpec)

/-- 'landaidtop.TopGrass', WHERE WHAT IT READS IS OF BULK AT MOST 1048576: true; the input reads as it did. -/
def topGrassUptoRow : OpenClaim := { program := "ytfmkmhhghmdakaagreatdoor", sum := "c7c9d402e8b36e137efb23a7e0d8152ef2c2748f918c63a7f5c7ce2032438d17", func := "landaid/landaidtop.TopGrass", spec := "topGrass", inPlace := ["internal/bytealg.CountString", "internal/bytealg.IndexByteString", "internal/bytealg.IndexString"], unfollowed := true, recurses := true, named := ["internal/bytealg.MaxLen", "unicode/utf8.first", "unicode/utf8.acceptRanges", "math/bits.divideError", "math/bits.overflowError"], plainKeys := false, apart := false, laid := [("unicode/utf8.acceptRanges", laid_unicode_utf8_acceptRanges), ("unicode/utf8.first", laid_unicode_utf8_first)], narrowed := true }
def TopGrassUptoSaid : Prop := topGrassUptoRow.holds Tryz.pinned (OpenSpec.upto topGrassSpec)

/-- 'landaidtop.TopRotation', WHERE WHAT IT READS IS OF BULK AT MOST 1048576: true; the input reads as it did. -/
def topRotationUptoRow : OpenClaim := { program := "ytfmkmhhghmdakaagreatdoor", sum := "c7c9d402e8b36e137efb23a7e0d8152ef2c2748f918c63a7f5c7ce2032438d17", func := "landaid/landaidtop.TopRotation", spec := "topRotation", inPlace := ["internal/bytealg.CountString", "internal/bytealg.IndexByteString", "internal/bytealg.IndexString"], unfollowed := true, recurses := true, named := ["internal/bytealg.MaxLen", "unicode/utf8.first", "unicode/utf8.acceptRanges", "math/bits.divideError", "math/bits.overflowError"], plainKeys := false, apart := false, laid := [("unicode/utf8.acceptRanges", laid_unicode_utf8_acceptRanges), ("unicode/utf8.first", laid_unicode_utf8_first)], narrowed := true }
def TopRotationUptoSaid : Prop := topRotationUptoRow.holds Tryz.pinned (OpenSpec.upto topRotationSpec)

end Rows
end Go.Proofs.YtfmkmhhghmdakaaGreatDoor
