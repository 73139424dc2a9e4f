/-
  No cell of these rows narrows 'for every input' (looked for: loops, veiled, ifaces, maps, wideKeys, modest, calm, conditions, laid).
  DERIVED. THE GIVEN ROWS OF THIS SEAT. 4 by the template 'for every input the law returns true; each argument reads behind the call as it read before'; 0 by the template 'total and deterministic' (their statements: YtabcadpfhachoaaTotals.lean).
  GIVEN WITH THE SEED: the statements are not yours to turn. If you find one false, say at which input.
  Laid BY PROGRAM, IN A SANDBOX (cutbox-rows.mjs): the forced cells as the released guide's own fill.sh prints them over the translation 53d8f29b87371e0d… (all of the seat's roots in one cut). By AI agents, Wed Nov 11 2026. No macro, syntax, notation, axiom, sorry.
-/
import Derived.Test.YtabcadpfhachoaaChecked
import GoSem.Claim
import GoSem.ClaimJoined
import GoSem.ClaimMapViews
import Derived.JoinedTies
import Derived.KernelRfl
namespace Go.Proofs.Ytabcadpfhachoaa
/- THE CELL 'sum', in the pinned program and in every row, IS THE sha256 OF THE DUMP (.gsa) THAT YtabcadpfhachoaaProg.lean LOADS. Nothing in Lean hashes anything: it is a label: what it is worth is what the hold of that sum in a sandbox is worth. -/
noncomputable def Try.pinned : Pinned := { name := "ytabcadpfhachoaa", sum := "53d8f29b87371e0d176f322e720322487919753cd539641d6d9b270fc65b4a8f", checked := Try.checked }
namespace Rows
def none {H : Type} : Left H := { results := [], args := [] }

/-- 'landaidlaw07.OverlaySquares': WHATEVER THE INPUT: true; the input reads as it did. -/
def overlaySquaresSpec : ChangeSpec := { name := "overlaySquares", fn := fun _ => fun
  | [d] => { results := [.lit (.bool true)], args := [d] }
  | _ => none }
def overlaySquaresRow : OpenClaim := { program := "ytabcadpfhachoaa", sum := "53d8f29b87371e0d176f322e720322487919753cd539641d6d9b270fc65b4a8f", func := "landaid/landaidlaw07.OverlaySquares", spec := "overlaySquares", unfollowed := true, recurses := true, apart := false }
def OverlaySquaresSaid : Prop := overlaySquaresRow.holds Try.pinned (OpenSpec.ofChange overlaySquaresSpec)

/-- ITS FALSE NEIGHBOUR: 'it returns false'. Refute it at one input. -/
def overlaySquaresWrong : ChangeSpec := { name := "overlaySquares", fn := fun _ => fun
  | [d] => { results := [.lit (.bool false)], args := [d] }
  | _ => none }
def OverlaySquaresWrongFalsely : Prop := overlaySquaresRow.holds Try.pinned (OpenSpec.ofChange overlaySquaresWrong)

/-- 'landaidlaw07.OverlayTurns': WHATEVER THE INPUT: true; the input reads as it did. -/
def overlayTurnsSpec : ChangeSpec := { name := "overlayTurns", fn := fun _ => fun
  | [d1, d2, d3] => { results := [.lit (.bool true)], args := [d1, d2, d3] }
  | _ => none }
def overlayTurnsRow : OpenClaim := { program := "ytabcadpfhachoaa", sum := "53d8f29b87371e0d176f322e720322487919753cd539641d6d9b270fc65b4a8f", func := "landaid/landaidlaw07.OverlayTurns", spec := "overlayTurns", unfollowed := true, recurses := true, apart := false }
def OverlayTurnsSaid : Prop := overlayTurnsRow.holds Try.pinned (OpenSpec.ofChange overlayTurnsSpec)

/-- ITS FALSE NEIGHBOUR: 'it returns false'. Refute it at one input. -/
def overlayTurnsWrong : ChangeSpec := { name := "overlayTurns", fn := fun _ => fun
  | [d1, d2, d3] => { results := [.lit (.bool false)], args := [d1, d2, d3] }
  | _ => none }
def OverlayTurnsWrongFalsely : Prop := overlayTurnsRow.holds Try.pinned (OpenSpec.ofChange overlayTurnsWrong)

/-- 'landaidlaw07.OverlayMore': WHATEVER THE INPUT: true; the input reads as it did. -/
def overlayMoreSpec : ChangeSpec := { name := "overlayMore", fn := fun _ => fun
  | [d] => { results := [.lit (.bool true)], args := [d] }
  | _ => none }
def overlayMoreRow : OpenClaim := { program := "ytabcadpfhachoaa", sum := "53d8f29b87371e0d176f322e720322487919753cd539641d6d9b270fc65b4a8f", func := "landaid/landaidlaw07.OverlayMore", spec := "overlayMore", unfollowed := true, recurses := true, apart := false }
def OverlayMoreSaid : Prop := overlayMoreRow.holds Try.pinned (OpenSpec.ofChange overlayMoreSpec)

/-- ITS FALSE NEIGHBOUR: 'it returns false'. Refute it at one input. -/
def overlayMoreWrong : ChangeSpec := { name := "overlayMore", fn := fun _ => fun
  | [d] => { results := [.lit (.bool false)], args := [d] }
  | _ => none }
def OverlayMoreWrongFalsely : Prop := overlayMoreRow.holds Try.pinned (OpenSpec.ofChange overlayMoreWrong)

/-- 'landaidlaw07.OverlayAreas': WHATEVER THE INPUT: true; the input reads as it did. -/
def overlayAreasSpec : ChangeSpec := { name := "overlayAreas", fn := fun _ => fun
  | [d] => { results := [.lit (.bool true)], args := [d] }
  | _ => none }
def overlayAreasRow : OpenClaim := { program := "ytabcadpfhachoaa", sum := "53d8f29b87371e0d176f322e720322487919753cd539641d6d9b270fc65b4a8f", func := "landaid/landaidlaw07.OverlayAreas", spec := "overlayAreas", unfollowed := true, recurses := true, apart := false }
def OverlayAreasSaid : Prop := overlayAreasRow.holds Try.pinned (OpenSpec.ofChange overlayAreasSpec)

/-- ITS FALSE NEIGHBOUR: 'it returns false'. Refute it at one input. -/
def overlayAreasWrong : ChangeSpec := { name := "overlayAreas", fn := fun _ => fun
  | [d] => { results := [.lit (.bool false)], args := [d] }
  | _ => none }
def OverlayAreasWrongFalsely : Prop := overlayAreasRow.holds Try.pinned (OpenSpec.ofChange overlayAreasWrong)

/- THE SECOND FORM. 'bulk': how many values and letters a reading holds, each counted each time it is reached (what is shared counts as often as it is met; a slice's spare places count too). A statement '..UptoSaid' is the law's where the arguments, and the package variables that the reading takes, are together of bulk at most 1048576: NARROWER than '..Said'. Prove '..Said' where nothing that the law and all that it calls make is longer than what came in: it says more and counts as full. Else prove '..UptoSaid'. A law counts once. -/
mutual
def uptoBulk {H : Type} : DataW H → Nat
  | .lit (.string bytes) => bytes.length + 1
  | .lit _ => 1
  | .nil => 1
  | .ptr d => uptoBulk d + 1
  | .slice elems spare => uptoBulkAll elems + uptoBulkAll spare + 1
  | .agg parts => uptoBulkAll parts + 1
  | .iface _ d => uptoBulk d + 1
  | .map entries => uptoBulkEntries entries + 1
  | .held _ => 1
def uptoBulkAll {H : Type} : List (DataW H) → Nat
  | [] => 0
  | d :: r => uptoBulk d + uptoBulkAll r
def uptoBulkEntries {H : Type} : List (Lit × DataW H) → Nat
  | [] => 0
  | x :: r => uptoBulkEntry x + uptoBulkEntries r
def uptoBulkEntry {H : Type} : Lit × DataW H → Nat
  | (.string bytes, d) => bytes.length + uptoBulk d + 1
  | (_, d) => uptoBulk d + 1
 end
def uptoSmall : (H : Type) → List (DataW H) → Bool := fun _ ds => decide (uptoBulkAll ds ≤ 1048576)
def OpenSpec.upto (s : _root_.Go.ChangeSpec) : _root_.Go.OpenSpec := { _root_.Go.OpenSpec.ofChange s with cond := some uptoSmall }

/-- 'landaidlaw07.OverlaySquares', WHERE WHAT IT READS IS OF BULK AT MOST 1048576: true; the input reads as it did. -/
def overlaySquaresUptoRow : OpenClaim := { program := "ytabcadpfhachoaa", sum := "53d8f29b87371e0d176f322e720322487919753cd539641d6d9b270fc65b4a8f", func := "landaid/landaidlaw07.OverlaySquares", spec := "overlaySquares", unfollowed := true, recurses := true, apart := false, narrowed := true }
def OverlaySquaresUptoSaid : Prop := overlaySquaresUptoRow.holds Try.pinned (OpenSpec.upto overlaySquaresSpec)

/-- 'landaidlaw07.OverlayTurns', WHERE WHAT IT READS IS OF BULK AT MOST 1048576: true; the input reads as it did. -/
def overlayTurnsUptoRow : OpenClaim := { program := "ytabcadpfhachoaa", sum := "53d8f29b87371e0d176f322e720322487919753cd539641d6d9b270fc65b4a8f", func := "landaid/landaidlaw07.OverlayTurns", spec := "overlayTurns", unfollowed := true, recurses := true, apart := false, narrowed := true }
def OverlayTurnsUptoSaid : Prop := overlayTurnsUptoRow.holds Try.pinned (OpenSpec.upto overlayTurnsSpec)

/-- 'landaidlaw07.OverlayMore', WHERE WHAT IT READS IS OF BULK AT MOST 1048576: true; the input reads as it did. -/
def overlayMoreUptoRow : OpenClaim := { program := "ytabcadpfhachoaa", sum := "53d8f29b87371e0d176f322e720322487919753cd539641d6d9b270fc65b4a8f", func := "landaid/landaidlaw07.OverlayMore", spec := "overlayMore", unfollowed := true, recurses := true, apart := false, narrowed := true }
def OverlayMoreUptoSaid : Prop := overlayMoreUptoRow.holds Try.pinned (OpenSpec.upto overlayMoreSpec)

/-- 'landaidlaw07.OverlayAreas', WHERE WHAT IT READS IS OF BULK AT MOST 1048576: true; the input reads as it did. -/
def overlayAreasUptoRow : OpenClaim := { program := "ytabcadpfhachoaa", sum := "53d8f29b87371e0d176f322e720322487919753cd539641d6d9b270fc65b4a8f", func := "landaid/landaidlaw07.OverlayAreas", spec := "overlayAreas", unfollowed := true, recurses := true, apart := false, narrowed := true }
def OverlayAreasUptoSaid : Prop := overlayAreasUptoRow.holds Try.pinned (OpenSpec.upto overlayAreasSpec)

end Rows
end Go.Proofs.Ytabcadpfhachoaa
