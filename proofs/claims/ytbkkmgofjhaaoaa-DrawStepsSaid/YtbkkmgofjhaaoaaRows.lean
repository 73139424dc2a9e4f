/-
  No cell of these rows narrows 'for every input' (looked for: loops, veiled, ifaces, maps, wideKeys, modest, calm, conditions, laid).
  DERIVED. THE GIVEN ROWS OF THIS SEAT. 6 by the template 'for every input the law returns true; each argument reads behind the call as it read before'; 0 by the template 'total and deterministic' (their statements: YtbkkmgofjhaaoaaTotals.lean).
  GIVEN WITH THE SEED: the statements are not yours to turn. If you find one false, say at which input.
  Laid BY PROGRAM, IN A SANDBOX (cutbox-rows.mjs): the forced cells as the released guide's own fill.sh prints them over the translation 6346157ef92337f7… (all of the seat's roots in one cut). By AI agents, Wed Nov 11 2026. No macro, syntax, notation, axiom, sorry.
-/
import Derived.Test.YtbkkmgofjhaaoaaChecked
import GoSem.Claim
import GoSem.ClaimJoined
import GoSem.ClaimMapViews
import Derived.JoinedTies
import Derived.KernelRfl
namespace Go.Proofs.Ytbkkmgofjhaaoaa
/- THE CELL 'sum', in the pinned program and in every row, IS THE sha256 OF THE DUMP (.gsa) THAT YtbkkmgofjhaaoaaProg.lean LOADS. Nothing in Lean hashes anything: it is a label: what it is worth is what the hold of that sum in a sandbox is worth. -/
noncomputable def Try.pinned : Pinned := { name := "ytbkkmgofjhaaoaa", sum := "6346157ef92337f77b76f69935e99cc3af8d25177337a12a8f87ba002705f400", checked := Try.checked }
namespace Rows
def none {H : Type} : Left H := { results := [], args := [] }

/-- 'landaidlaw24.DrawSteps': WHATEVER THE INPUT: true; the input reads as it did. -/
def drawStepsSpec : ChangeSpec := { name := "drawSteps", fn := fun _ => fun
  | [d1, d2, d3, d4, d5, d6] => { results := [.lit (.bool true)], args := [d1, d2, d3, d4, d5, d6] }
  | _ => none }
def drawStepsRow : OpenClaim := { program := "ytbkkmgofjhaaoaa", sum := "6346157ef92337f77b76f69935e99cc3af8d25177337a12a8f87ba002705f400", func := "landaid/landaidlaw24.DrawSteps", spec := "drawSteps", unfollowed := true, recurses := true, apart := false }
def DrawStepsSaid : Prop := drawStepsRow.holds Try.pinned (OpenSpec.ofChange drawStepsSpec)

/-- ITS FALSE NEIGHBOUR: 'it returns false'. Refute it at one input. -/
def drawStepsWrong : ChangeSpec := { name := "drawSteps", fn := fun _ => fun
  | [d1, d2, d3, d4, d5, d6] => { results := [.lit (.bool false)], args := [d1, d2, d3, d4, d5, d6] }
  | _ => none }
def DrawStepsWrongFalsely : Prop := drawStepsRow.holds Try.pinned (OpenSpec.ofChange drawStepsWrong)

/-- 'landaidlaw24.DrawNumbers': WHATEVER THE INPUT: true; the input reads as it did. -/
def drawNumbersSpec : ChangeSpec := { name := "drawNumbers", fn := fun _ => fun
  | [d1, d2, d3, d4, d5] => { results := [.lit (.bool true)], args := [d1, d2, d3, d4, d5] }
  | _ => none }
def drawNumbersRow : OpenClaim := { program := "ytbkkmgofjhaaoaa", sum := "6346157ef92337f77b76f69935e99cc3af8d25177337a12a8f87ba002705f400", func := "landaid/landaidlaw24.DrawNumbers", spec := "drawNumbers", unfollowed := true, recurses := true, apart := false }
def DrawNumbersSaid : Prop := drawNumbersRow.holds Try.pinned (OpenSpec.ofChange drawNumbersSpec)

/-- ITS FALSE NEIGHBOUR: 'it returns false'. Refute it at one input. -/
def drawNumbersWrong : ChangeSpec := { name := "drawNumbers", fn := fun _ => fun
  | [d1, d2, d3, d4, d5] => { results := [.lit (.bool false)], args := [d1, d2, d3, d4, d5] }
  | _ => none }
def DrawNumbersWrongFalsely : Prop := drawNumbersRow.holds Try.pinned (OpenSpec.ofChange drawNumbersWrong)

/-- 'landaidlaw24.DrawSamples': WHATEVER THE INPUT: true; the input reads as it did. -/
def drawSamplesSpec : ChangeSpec := { name := "drawSamples", fn := fun _ => fun
  | [d1, d2, d3, d4] => { results := [.lit (.bool true)], args := [d1, d2, d3, d4] }
  | _ => none }
def drawSamplesRow : OpenClaim := { program := "ytbkkmgofjhaaoaa", sum := "6346157ef92337f77b76f69935e99cc3af8d25177337a12a8f87ba002705f400", func := "landaid/landaidlaw24.DrawSamples", spec := "drawSamples", unfollowed := true, recurses := true, apart := false }
def DrawSamplesSaid : Prop := drawSamplesRow.holds Try.pinned (OpenSpec.ofChange drawSamplesSpec)

/-- ITS FALSE NEIGHBOUR: 'it returns false'. Refute it at one input. -/
def drawSamplesWrong : ChangeSpec := { name := "drawSamples", fn := fun _ => fun
  | [d1, d2, d3, d4] => { results := [.lit (.bool false)], args := [d1, d2, d3, d4] }
  | _ => none }
def DrawSamplesWrongFalsely : Prop := drawSamplesRow.holds Try.pinned (OpenSpec.ofChange drawSamplesWrong)

/-- 'landaidlaw24.DrawOrder': WHATEVER THE INPUT: true; the input reads as it did. -/
def drawOrderSpec : ChangeSpec := { name := "drawOrder", fn := fun _ => fun
  | [d1, d2] => { results := [.lit (.bool true)], args := [d1, d2] }
  | _ => none }
def drawOrderRow : OpenClaim := { program := "ytbkkmgofjhaaoaa", sum := "6346157ef92337f77b76f69935e99cc3af8d25177337a12a8f87ba002705f400", func := "landaid/landaidlaw24.DrawOrder", spec := "drawOrder", unfollowed := true, recurses := true, apart := false }
def DrawOrderSaid : Prop := drawOrderRow.holds Try.pinned (OpenSpec.ofChange drawOrderSpec)

/-- ITS FALSE NEIGHBOUR: 'it returns false'. Refute it at one input. -/
def drawOrderWrong : ChangeSpec := { name := "drawOrder", fn := fun _ => fun
  | [d1, d2] => { results := [.lit (.bool false)], args := [d1, d2] }
  | _ => none }
def DrawOrderWrongFalsely : Prop := drawOrderRow.holds Try.pinned (OpenSpec.ofChange drawOrderWrong)

/-- 'landaidlaw24.DrawGrows': WHATEVER THE INPUT: true; the input reads as it did. -/
def drawGrowsSpec : ChangeSpec := { name := "drawGrows", fn := fun _ => fun
  | [d1, d2, d3] => { results := [.lit (.bool true)], args := [d1, d2, d3] }
  | _ => none }
def drawGrowsRow : OpenClaim := { program := "ytbkkmgofjhaaoaa", sum := "6346157ef92337f77b76f69935e99cc3af8d25177337a12a8f87ba002705f400", func := "landaid/landaidlaw24.DrawGrows", spec := "drawGrows", unfollowed := true, recurses := true, apart := false }
def DrawGrowsSaid : Prop := drawGrowsRow.holds Try.pinned (OpenSpec.ofChange drawGrowsSpec)

/-- ITS FALSE NEIGHBOUR: 'it returns false'. Refute it at one input. -/
def drawGrowsWrong : ChangeSpec := { name := "drawGrows", fn := fun _ => fun
  | [d1, d2, d3] => { results := [.lit (.bool false)], args := [d1, d2, d3] }
  | _ => none }
def DrawGrowsWrongFalsely : Prop := drawGrowsRow.holds Try.pinned (OpenSpec.ofChange drawGrowsWrong)

/-- 'landaidlaw24.DrawMissing': WHATEVER THE INPUT: true; the input reads as it did. -/
def drawMissingSpec : ChangeSpec := { name := "drawMissing", fn := fun _ => fun
  | [d] => { results := [.lit (.bool true)], args := [d] }
  | _ => none }
def drawMissingRow : OpenClaim := { program := "ytbkkmgofjhaaoaa", sum := "6346157ef92337f77b76f69935e99cc3af8d25177337a12a8f87ba002705f400", func := "landaid/landaidlaw24.DrawMissing", spec := "drawMissing", unfollowed := true, recurses := true, apart := false }
def DrawMissingSaid : Prop := drawMissingRow.holds Try.pinned (OpenSpec.ofChange drawMissingSpec)

/-- ITS FALSE NEIGHBOUR: 'it returns false'. Refute it at one input. -/
def drawMissingWrong : ChangeSpec := { name := "drawMissing", fn := fun _ => fun
  | [d] => { results := [.lit (.bool false)], args := [d] }
  | _ => none }
def DrawMissingWrongFalsely : Prop := drawMissingRow.holds Try.pinned (OpenSpec.ofChange drawMissingWrong)

/- THE SECOND FORM. 'bulk': how many values and letters a reading holds, each counted each time it is reached (what is shared counts as often as it is met; a slice's spare places count too). A statement '..UptoSaid' is the law's where the arguments, and the package variables that the reading takes, are together of bulk at most 1048576: NARROWER than '..Said'. Prove '..Said' where nothing that the law and all that it calls make is longer than what came in: it says more and counts as full. Else prove '..UptoSaid'. A law counts once. -/
mutual
def uptoBulk {H : Type} : DataW H → Nat
  | .lit (.string bytes) => bytes.length + 1
  | .lit _ => 1
  | .nil => 1
  | .ptr d => uptoBulk d + 1
  | .slice elems spare => uptoBulkAll elems + uptoBulkAll spare + 1
  | .agg parts => uptoBulkAll parts + 1
  | .iface _ d => uptoBulk d + 1
  | .map entries => uptoBulkEntries entries + 1
  | .held _ => 1
def uptoBulkAll {H : Type} : List (DataW H) → Nat
  | [] => 0
  | d :: r => uptoBulk d + uptoBulkAll r
def uptoBulkEntries {H : Type} : List (Lit × DataW H) → Nat
  | [] => 0
  | x :: r => uptoBulkEntry x + uptoBulkEntries r
def uptoBulkEntry {H : Type} : Lit × DataW H → Nat
  | (.string bytes, d) => bytes.length + uptoBulk d + 1
  | (_, d) => uptoBulk d + 1
 end
def uptoSmall : (H : Type) → List (DataW H) → Bool := fun _ ds => decide (uptoBulkAll ds ≤ 1048576)
def OpenSpec.upto (s : _root_.Go.ChangeSpec) : _root_.Go.OpenSpec := { _root_.Go.OpenSpec.ofChange s with cond := some uptoSmall }

/-- 'landaidlaw24.DrawSteps', WHERE WHAT IT READS IS OF BULK AT MOST 1048576: true; the input reads as it did. -/
def drawStepsUptoRow : OpenClaim := { program := "ytbkkmgofjhaaoaa", sum := "6346157ef92337f77b76f69935e99cc3af8d25177337a12a8f87ba002705f400", func := "landaid/landaidlaw24.DrawSteps", spec := "drawSteps", unfollowed := true, recurses := true, apart := false, narrowed := true }
def DrawStepsUptoSaid : Prop := drawStepsUptoRow.holds Try.pinned (OpenSpec.upto drawStepsSpec)

/-- 'landaidlaw24.DrawNumbers', WHERE WHAT IT READS IS OF BULK AT MOST 1048576: true; the input reads as it did. -/
def drawNumbersUptoRow : OpenClaim := { program := "ytbkkmgofjhaaoaa", sum := "6346157ef92337f77b76f69935e99cc3af8d25177337a12a8f87ba002705f400", func := "landaid/landaidlaw24.DrawNumbers", spec := "drawNumbers", unfollowed := true, recurses := true, apart := false, narrowed := true }
def DrawNumbersUptoSaid : Prop := drawNumbersUptoRow.holds Try.pinned (OpenSpec.upto drawNumbersSpec)

/-- 'landaidlaw24.DrawSamples', WHERE WHAT IT READS IS OF BULK AT MOST 1048576: true; the input reads as it did. -/
def drawSamplesUptoRow : OpenClaim := { program := "ytbkkmgofjhaaoaa", sum := "6346157ef92337f77b76f69935e99cc3af8d25177337a12a8f87ba002705f400", func := "landaid/landaidlaw24.DrawSamples", spec := "drawSamples", unfollowed := true, recurses := true, apart := false, narrowed := true }
def DrawSamplesUptoSaid : Prop := drawSamplesUptoRow.holds Try.pinned (OpenSpec.upto drawSamplesSpec)

/-- 'landaidlaw24.DrawOrder', WHERE WHAT IT READS IS OF BULK AT MOST 1048576: true; the input reads as it did. -/
def drawOrderUptoRow : OpenClaim := { program := "ytbkkmgofjhaaoaa", sum := "6346157ef92337f77b76f69935e99cc3af8d25177337a12a8f87ba002705f400", func := "landaid/landaidlaw24.DrawOrder", spec := "drawOrder", unfollowed := true, recurses := true, apart := false, narrowed := true }
def DrawOrderUptoSaid : Prop := drawOrderUptoRow.holds Try.pinned (OpenSpec.upto drawOrderSpec)

/-- 'landaidlaw24.DrawGrows', WHERE WHAT IT READS IS OF BULK AT MOST 1048576: true; the input reads as it did. -/
def drawGrowsUptoRow : OpenClaim := { program := "ytbkkmgofjhaaoaa", sum := "6346157ef92337f77b76f69935e99cc3af8d25177337a12a8f87ba002705f400", func := "landaid/landaidlaw24.DrawGrows", spec := "drawGrows", unfollowed := true, recurses := true, apart := false, narrowed := true }
def DrawGrowsUptoSaid : Prop := drawGrowsUptoRow.holds Try.pinned (OpenSpec.upto drawGrowsSpec)

/-- 'landaidlaw24.DrawMissing', WHERE WHAT IT READS IS OF BULK AT MOST 1048576: true; the input reads as it did. -/
def drawMissingUptoRow : OpenClaim := { program := "ytbkkmgofjhaaoaa", sum := "6346157ef92337f77b76f69935e99cc3af8d25177337a12a8f87ba002705f400", func := "landaid/landaidlaw24.DrawMissing", spec := "drawMissing", unfollowed := true, recurses := true, apart := false, narrowed := true }
def DrawMissingUptoSaid : Prop := drawMissingUptoRow.holds Try.pinned (OpenSpec.upto drawMissingSpec)

end Rows
end Go.Proofs.Ytbkkmgofjhaaoaa
