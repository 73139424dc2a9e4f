/-
  No cell of these rows narrows 'for every input' (looked for: loops, veiled, ifaces, maps, wideKeys, modest, calm, conditions, laid).
  DERIVED. THE GIVEN ROWS OF THIS SEAT. 3 by the template 'for every input the law returns true; each argument reads behind the call as it read before'; 0 by the template 'total and deterministic' (their statements: YteehihmjbibebaaTotals.lean).
  GIVEN WITH THE SEED: the statements are not yours to turn. If you find one false, say at which input.
  Laid BY PROGRAM, IN A SANDBOX (cutbox-rows.mjs): the forced cells as the released guide's own fill.sh prints them over the translation bb65d3b9fcb36e20… (all of the seat's roots in one cut). By AI agents, Wed Nov 11 2026. No macro, syntax, notation, axiom, sorry.
-/
import Derived.Test.YteehihmjbibebaaChecked
import GoSem.Claim
import GoSem.ClaimJoined
import GoSem.ClaimMapViews
import Derived.JoinedTies
import Derived.KernelRfl
namespace Go.Proofs.Yteehihmjbibebaa
/- THE CELL 'sum', in the pinned program and in every row, IS THE sha256 OF THE DUMP (.gsa) THAT YteehihmjbibebaaProg.lean LOADS. Nothing in Lean hashes anything: it is a label: what it is worth is what the hold of that sum in a sandbox is worth. -/
noncomputable def Try.pinned : Pinned := { name := "yteehihmjbibebaa", sum := "bb65d3b9fcb36e20c07f42cf04628268d0a13a67541fa0f3d3b321631aeac793", checked := Try.checked }
namespace Rows
def none {H : Type} : Left H := { results := [], args := [] }

/-- 'landaidlaw08.ToleranceBetween': WHATEVER THE INPUT: true; the input reads as it did. -/
def toleranceBetweenSpec : ChangeSpec := { name := "toleranceBetween", fn := fun _ => fun
  | [d1, d2, d3, d4] => { results := [.lit (.bool true)], args := [d1, d2, d3, d4] }
  | _ => none }
def toleranceBetweenRow : OpenClaim := { program := "yteehihmjbibebaa", sum := "bb65d3b9fcb36e20c07f42cf04628268d0a13a67541fa0f3d3b321631aeac793", func := "landaid/landaidlaw08.ToleranceBetween", spec := "toleranceBetween", unfollowed := true, recurses := true, apart := false }
def ToleranceBetweenSaid : Prop := toleranceBetweenRow.holds Try.pinned (OpenSpec.ofChange toleranceBetweenSpec)

/-- ITS FALSE NEIGHBOUR: 'it returns false'. Refute it at one input. -/
def toleranceBetweenWrong : ChangeSpec := { name := "toleranceBetween", fn := fun _ => fun
  | [d1, d2, d3, d4] => { results := [.lit (.bool false)], args := [d1, d2, d3, d4] }
  | _ => none }
def ToleranceBetweenWrongFalsely : Prop := toleranceBetweenRow.holds Try.pinned (OpenSpec.ofChange toleranceBetweenWrong)

/-- 'landaidlaw08.ToleranceWider': WHATEVER THE INPUT: true; the input reads as it did. -/
def toleranceWiderSpec : ChangeSpec := { name := "toleranceWider", fn := fun _ => fun
  | [d1, d2, d3, d4, d5] => { results := [.lit (.bool true)], args := [d1, d2, d3, d4, d5] }
  | _ => none }
def toleranceWiderRow : OpenClaim := { program := "yteehihmjbibebaa", sum := "bb65d3b9fcb36e20c07f42cf04628268d0a13a67541fa0f3d3b321631aeac793", func := "landaid/landaidlaw08.ToleranceWider", spec := "toleranceWider", unfollowed := true, recurses := true, apart := false }
def ToleranceWiderSaid : Prop := toleranceWiderRow.holds Try.pinned (OpenSpec.ofChange toleranceWiderSpec)

/-- ITS FALSE NEIGHBOUR: 'it returns false'. Refute it at one input. -/
def toleranceWiderWrong : ChangeSpec := { name := "toleranceWider", fn := fun _ => fun
  | [d1, d2, d3, d4, d5] => { results := [.lit (.bool false)], args := [d1, d2, d3, d4, d5] }
  | _ => none }
def ToleranceWiderWrongFalsely : Prop := toleranceWiderRow.holds Try.pinned (OpenSpec.ofChange toleranceWiderWrong)

/-- 'landaidlaw08.ToleranceSums': WHATEVER THE INPUT: true; the input reads as it did. -/
def toleranceSumsSpec : ChangeSpec := { name := "toleranceSums", fn := fun _ => fun
  | [d] => { results := [.lit (.bool true)], args := [d] }
  | _ => none }
def toleranceSumsRow : OpenClaim := { program := "yteehihmjbibebaa", sum := "bb65d3b9fcb36e20c07f42cf04628268d0a13a67541fa0f3d3b321631aeac793", func := "landaid/landaidlaw08.ToleranceSums", spec := "toleranceSums", unfollowed := true, recurses := true, apart := false }
def ToleranceSumsSaid : Prop := toleranceSumsRow.holds Try.pinned (OpenSpec.ofChange toleranceSumsSpec)

/-- ITS FALSE NEIGHBOUR: 'it returns false'. Refute it at one input. -/
def toleranceSumsWrong : ChangeSpec := { name := "toleranceSums", fn := fun _ => fun
  | [d] => { results := [.lit (.bool false)], args := [d] }
  | _ => none }
def ToleranceSumsWrongFalsely : Prop := toleranceSumsRow.holds Try.pinned (OpenSpec.ofChange toleranceSumsWrong)

/- THE SECOND FORM. 'bulk': how many values and letters a reading holds, each counted each time it is reached (what is shared counts as often as it is met; a slice's spare places count too). A statement '..UptoSaid' is the law's where the arguments, and the package variables that the reading takes, are together of bulk at most 1048576: NARROWER than '..Said'. Prove '..Said' where nothing that the law and all that it calls make is longer than what came in: it says more and counts as full. Else prove '..UptoSaid'. A law counts once. -/
mutual
def uptoBulk {H : Type} : DataW H → Nat
  | .lit (.string bytes) => bytes.length + 1
  | .lit _ => 1
  | .nil => 1
  | .ptr d => uptoBulk d + 1
  | .slice elems spare => uptoBulkAll elems + uptoBulkAll spare + 1
  | .agg parts => uptoBulkAll parts + 1
  | .iface _ d => uptoBulk d + 1
  | .map entries => uptoBulkEntries entries + 1
  | .held _ => 1
def uptoBulkAll {H : Type} : List (DataW H) → Nat
  | [] => 0
  | d :: r => uptoBulk d + uptoBulkAll r
def uptoBulkEntries {H : Type} : List (Lit × DataW H) → Nat
  | [] => 0
  | x :: r => uptoBulkEntry x + uptoBulkEntries r
def uptoBulkEntry {H : Type} : Lit × DataW H → Nat
  | (.string bytes, d) => bytes.length + uptoBulk d + 1
  | (_, d) => uptoBulk d + 1
 end
def uptoSmall : (H : Type) → List (DataW H) → Bool := fun _ ds => decide (uptoBulkAll ds ≤ 1048576)
def OpenSpec.upto (s : _root_.Go.ChangeSpec) : _root_.Go.OpenSpec := { _root_.Go.OpenSpec.ofChange s with cond := some uptoSmall }

/-- 'landaidlaw08.ToleranceBetween', WHERE WHAT IT READS IS OF BULK AT MOST 1048576: true; the input reads as it did. -/
def toleranceBetweenUptoRow : OpenClaim := { program := "yteehihmjbibebaa", sum := "bb65d3b9fcb36e20c07f42cf04628268d0a13a67541fa0f3d3b321631aeac793", func := "landaid/landaidlaw08.ToleranceBetween", spec := "toleranceBetween", unfollowed := true, recurses := true, apart := false, narrowed := true }
def ToleranceBetweenUptoSaid : Prop := toleranceBetweenUptoRow.holds Try.pinned (OpenSpec.upto toleranceBetweenSpec)

/-- 'landaidlaw08.ToleranceWider', WHERE WHAT IT READS IS OF BULK AT MOST 1048576: true; the input reads as it did. -/
def toleranceWiderUptoRow : OpenClaim := { program := "yteehihmjbibebaa", sum := "bb65d3b9fcb36e20c07f42cf04628268d0a13a67541fa0f3d3b321631aeac793", func := "landaid/landaidlaw08.ToleranceWider", spec := "toleranceWider", unfollowed := true, recurses := true, apart := false, narrowed := true }
def ToleranceWiderUptoSaid : Prop := toleranceWiderUptoRow.holds Try.pinned (OpenSpec.upto toleranceWiderSpec)

/-- 'landaidlaw08.ToleranceSums', WHERE WHAT IT READS IS OF BULK AT MOST 1048576: true; the input reads as it did. -/
def toleranceSumsUptoRow : OpenClaim := { program := "yteehihmjbibebaa", sum := "bb65d3b9fcb36e20c07f42cf04628268d0a13a67541fa0f3d3b321631aeac793", func := "landaid/landaidlaw08.ToleranceSums", spec := "toleranceSums", unfollowed := true, recurses := true, apart := false, narrowed := true }
def ToleranceSumsUptoSaid : Prop := toleranceSumsUptoRow.holds Try.pinned (OpenSpec.upto toleranceSumsSpec)

end Rows
end Go.Proofs.Yteehihmjbibebaa
