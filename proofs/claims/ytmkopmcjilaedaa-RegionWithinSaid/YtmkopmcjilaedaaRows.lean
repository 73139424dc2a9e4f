/-
  No cell of these rows narrows 'for every input' (looked for: loops, veiled, ifaces, maps, wideKeys, modest, calm, conditions, laid).
  DERIVED. THE GIVEN ROWS OF THIS SEAT. 4 by the template 'for every input the law returns true; each argument reads behind the call as it read before'; 0 by the template 'total and deterministic' (their statements: YtmkopmcjilaedaaTotals.lean).
  GIVEN WITH THE SEED: the statements are not yours to turn. If you find one false, say at which input.
  Laid BY PROGRAM, IN A SANDBOX (cutbox-rows.mjs): the forced cells as the released guide's own fill.sh prints them over the translation 82c671328c16e52a… (all of the seat's roots in one cut). By AI agents, Wed Nov 11 2026. No macro, syntax, notation, axiom, sorry.
-/
import Derived.Test.YtmkopmcjilaedaaChecked
import GoSem.Claim
import GoSem.ClaimJoined
import GoSem.ClaimMapViews
import Derived.JoinedTies
import Derived.KernelRfl
namespace Go.Proofs.Ytmkopmcjilaedaa
/- THE CELL 'sum', in the pinned program and in every row, IS THE sha256 OF THE DUMP (.gsa) THAT YtmkopmcjilaedaaProg.lean LOADS. Nothing in Lean hashes anything: it is a label: what it is worth is what the hold of that sum in a sandbox is worth. -/
noncomputable def Try.pinned : Pinned := { name := "ytmkopmcjilaedaa", sum := "82c671328c16e52afef9f251becb497959669190cca2796a9591b9d5139ec06d", checked := Try.checked }
namespace Rows
def none {H : Type} : Left H := { results := [], args := [] }

/-- 'landaidlaw04.RegionForm': WHATEVER THE INPUT: true; the input reads as it did. -/
def regionFormSpec : ChangeSpec := { name := "regionForm", fn := fun _ => fun
  | [d1, d2] => { results := [.lit (.bool true)], args := [d1, d2] }
  | _ => none }
def regionFormRow : OpenClaim := { program := "ytmkopmcjilaedaa", sum := "82c671328c16e52afef9f251becb497959669190cca2796a9591b9d5139ec06d", func := "landaid/landaidlaw04.RegionForm", spec := "regionForm", unfollowed := true, recurses := true, apart := false }
def RegionFormSaid : Prop := regionFormRow.holds Try.pinned (OpenSpec.ofChange regionFormSpec)

/-- ITS FALSE NEIGHBOUR: 'it returns false'. Refute it at one input. -/
def regionFormWrong : ChangeSpec := { name := "regionForm", fn := fun _ => fun
  | [d1, d2] => { results := [.lit (.bool false)], args := [d1, d2] }
  | _ => none }
def RegionFormWrongFalsely : Prop := regionFormRow.holds Try.pinned (OpenSpec.ofChange regionFormWrong)

/-- 'landaidlaw04.RegionSquares': WHATEVER THE INPUT: true; the input reads as it did. -/
def regionSquaresSpec : ChangeSpec := { name := "regionSquares", fn := fun _ => fun
  | [d] => { results := [.lit (.bool true)], args := [d] }
  | _ => none }
def regionSquaresRow : OpenClaim := { program := "ytmkopmcjilaedaa", sum := "82c671328c16e52afef9f251becb497959669190cca2796a9591b9d5139ec06d", func := "landaid/landaidlaw04.RegionSquares", spec := "regionSquares", unfollowed := true, recurses := true, apart := false }
def RegionSquaresSaid : Prop := regionSquaresRow.holds Try.pinned (OpenSpec.ofChange regionSquaresSpec)

/-- ITS FALSE NEIGHBOUR: 'it returns false'. Refute it at one input. -/
def regionSquaresWrong : ChangeSpec := { name := "regionSquares", fn := fun _ => fun
  | [d] => { results := [.lit (.bool false)], args := [d] }
  | _ => none }
def RegionSquaresWrongFalsely : Prop := regionSquaresRow.holds Try.pinned (OpenSpec.ofChange regionSquaresWrong)

/-- 'landaidlaw04.RegionSets': WHATEVER THE INPUT: true; the input reads as it did. -/
def regionSetsSpec : ChangeSpec := { name := "regionSets", fn := fun _ => fun
  | [d] => { results := [.lit (.bool true)], args := [d] }
  | _ => none }
def regionSetsRow : OpenClaim := { program := "ytmkopmcjilaedaa", sum := "82c671328c16e52afef9f251becb497959669190cca2796a9591b9d5139ec06d", func := "landaid/landaidlaw04.RegionSets", spec := "regionSets", unfollowed := true, recurses := true, apart := false }
def RegionSetsSaid : Prop := regionSetsRow.holds Try.pinned (OpenSpec.ofChange regionSetsSpec)

/-- ITS FALSE NEIGHBOUR: 'it returns false'. Refute it at one input. -/
def regionSetsWrong : ChangeSpec := { name := "regionSets", fn := fun _ => fun
  | [d] => { results := [.lit (.bool false)], args := [d] }
  | _ => none }
def RegionSetsWrongFalsely : Prop := regionSetsRow.holds Try.pinned (OpenSpec.ofChange regionSetsWrong)

/-- 'landaidlaw04.RegionWithin': WHATEVER THE INPUT: true; the input reads as it did. -/
def regionWithinSpec : ChangeSpec := { name := "regionWithin", fn := fun _ => fun
  | [d] => { results := [.lit (.bool true)], args := [d] }
  | _ => none }
def regionWithinRow : OpenClaim := { program := "ytmkopmcjilaedaa", sum := "82c671328c16e52afef9f251becb497959669190cca2796a9591b9d5139ec06d", func := "landaid/landaidlaw04.RegionWithin", spec := "regionWithin", unfollowed := true, recurses := true, apart := false }
def RegionWithinSaid : Prop := regionWithinRow.holds Try.pinned (OpenSpec.ofChange regionWithinSpec)

/-- ITS FALSE NEIGHBOUR: 'it returns false'. Refute it at one input. -/
def regionWithinWrong : ChangeSpec := { name := "regionWithin", fn := fun _ => fun
  | [d] => { results := [.lit (.bool false)], args := [d] }
  | _ => none }
def RegionWithinWrongFalsely : Prop := regionWithinRow.holds Try.pinned (OpenSpec.ofChange regionWithinWrong)

/- THE SECOND FORM. 'bulk': how many values and letters a reading holds, each counted each time it is reached (what is shared counts as often as it is met; a slice's spare places count too). A statement '..UptoSaid' is the law's where the arguments, and the package variables that the reading takes, are together of bulk at most 1048576: NARROWER than '..Said'. Prove '..Said' where nothing that the law and all that it calls make is longer than what came in: it says more and counts as full. Else prove '..UptoSaid'. A law counts once. -/
mutual
def uptoBulk {H : Type} : DataW H → Nat
  | .lit (.string bytes) => bytes.length + 1
  | .lit _ => 1
  | .nil => 1
  | .ptr d => uptoBulk d + 1
  | .slice elems spare => uptoBulkAll elems + uptoBulkAll spare + 1
  | .agg parts => uptoBulkAll parts + 1
  | .iface _ d => uptoBulk d + 1
  | .map entries => uptoBulkEntries entries + 1
  | .held _ => 1
def uptoBulkAll {H : Type} : List (DataW H) → Nat
  | [] => 0
  | d :: r => uptoBulk d + uptoBulkAll r
def uptoBulkEntries {H : Type} : List (Lit × DataW H) → Nat
  | [] => 0
  | x :: r => uptoBulkEntry x + uptoBulkEntries r
def uptoBulkEntry {H : Type} : Lit × DataW H → Nat
  | (.string bytes, d) => bytes.length + uptoBulk d + 1
  | (_, d) => uptoBulk d + 1
 end
def uptoSmall : (H : Type) → List (DataW H) → Bool := fun _ ds => decide (uptoBulkAll ds ≤ 1048576)
def OpenSpec.upto (s : _root_.Go.ChangeSpec) : _root_.Go.OpenSpec := { _root_.Go.OpenSpec.ofChange s with cond := some uptoSmall }

/-- 'landaidlaw04.RegionForm', WHERE WHAT IT READS IS OF BULK AT MOST 1048576: true; the input reads as it did. -/
def regionFormUptoRow : OpenClaim := { program := "ytmkopmcjilaedaa", sum := "82c671328c16e52afef9f251becb497959669190cca2796a9591b9d5139ec06d", func := "landaid/landaidlaw04.RegionForm", spec := "regionForm", unfollowed := true, recurses := true, apart := false, narrowed := true }
def RegionFormUptoSaid : Prop := regionFormUptoRow.holds Try.pinned (OpenSpec.upto regionFormSpec)

/-- 'landaidlaw04.RegionSquares', WHERE WHAT IT READS IS OF BULK AT MOST 1048576: true; the input reads as it did. -/
def regionSquaresUptoRow : OpenClaim := { program := "ytmkopmcjilaedaa", sum := "82c671328c16e52afef9f251becb497959669190cca2796a9591b9d5139ec06d", func := "landaid/landaidlaw04.RegionSquares", spec := "regionSquares", unfollowed := true, recurses := true, apart := false, narrowed := true }
def RegionSquaresUptoSaid : Prop := regionSquaresUptoRow.holds Try.pinned (OpenSpec.upto regionSquaresSpec)

/-- 'landaidlaw04.RegionSets', WHERE WHAT IT READS IS OF BULK AT MOST 1048576: true; the input reads as it did. -/
def regionSetsUptoRow : OpenClaim := { program := "ytmkopmcjilaedaa", sum := "82c671328c16e52afef9f251becb497959669190cca2796a9591b9d5139ec06d", func := "landaid/landaidlaw04.RegionSets", spec := "regionSets", unfollowed := true, recurses := true, apart := false, narrowed := true }
def RegionSetsUptoSaid : Prop := regionSetsUptoRow.holds Try.pinned (OpenSpec.upto regionSetsSpec)

/-- 'landaidlaw04.RegionWithin', WHERE WHAT IT READS IS OF BULK AT MOST 1048576: true; the input reads as it did. -/
def regionWithinUptoRow : OpenClaim := { program := "ytmkopmcjilaedaa", sum := "82c671328c16e52afef9f251becb497959669190cca2796a9591b9d5139ec06d", func := "landaid/landaidlaw04.RegionWithin", spec := "regionWithin", unfollowed := true, recurses := true, apart := false, narrowed := true }
def RegionWithinUptoSaid : Prop := regionWithinUptoRow.holds Try.pinned (OpenSpec.upto regionWithinSpec)

end Rows
end Go.Proofs.Ytmkopmcjilaedaa
