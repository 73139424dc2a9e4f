/-
  No cell of these rows narrows 'for every input' (looked for: loops, veiled, ifaces, maps, wideKeys, modest, calm, conditions, laid).
  DERIVED. THE GIVEN ROWS OF THIS SEAT. 5 by the template 'for every input the law returns true; each argument reads behind the call as it read before'; 0 by the template 'total and deterministic' (their statements: YtepcelekjjalfaaTotals.lean).
  GIVEN WITH THE SEED: the statements are not yours to turn. If you find one false, say at which input.
  Laid BY PROGRAM, IN A SANDBOX (cutbox-rows.mjs): the forced cells as the released guide's own fill.sh prints them over the translation f0ee3444d7c19d91… (all of the seat's roots in one cut). By AI agents, Wed Nov 11 2026. No macro, syntax, notation, axiom, sorry.
-/
import Derived.Test.YtepcelekjjalfaaChecked
import GoSem.Claim
import GoSem.ClaimJoined
import GoSem.ClaimMapViews
import Derived.JoinedTies
import Derived.KernelRfl
namespace Go.Proofs.Ytepcelekjjalfaa
/- THE CELL 'sum', in the pinned program and in every row, IS THE sha256 OF THE DUMP (.gsa) THAT YtepcelekjjalfaaProg.lean LOADS. Nothing in Lean hashes anything: it is a label: what it is worth is what the hold of that sum in a sandbox is worth. -/
noncomputable def Try.pinned : Pinned := { name := "ytepcelekjjalfaa", sum := "f0ee3444d7c19d917d65711222fd68ec2ce09f0dbb13abeb9731e571b2ff5f46", checked := Try.checked }
namespace Rows
def none {H : Type} : Left H := { results := [], args := [] }

/-- 'landaidlaw28.DeterminedAnswers': WHATEVER THE INPUT: true; the input reads as it did. -/
def determinedAnswersSpec : ChangeSpec := { name := "determinedAnswers", fn := fun _ => fun
  | [d1, d2, d3, d4, d5] => { results := [.lit (.bool true)], args := [d1, d2, d3, d4, d5] }
  | _ => none }
def determinedAnswersRow : OpenClaim := { program := "ytepcelekjjalfaa", sum := "f0ee3444d7c19d917d65711222fd68ec2ce09f0dbb13abeb9731e571b2ff5f46", func := "landaid/landaidlaw28.DeterminedAnswers", spec := "determinedAnswers", apart := false }
def DeterminedAnswersSaid : Prop := determinedAnswersRow.holds Try.pinned (OpenSpec.ofChange determinedAnswersSpec)

/-- ITS FALSE NEIGHBOUR: 'it returns false'. Refute it at one input. -/
def determinedAnswersWrong : ChangeSpec := { name := "determinedAnswers", fn := fun _ => fun
  | [d1, d2, d3, d4, d5] => { results := [.lit (.bool false)], args := [d1, d2, d3, d4, d5] }
  | _ => none }
def DeterminedAnswersWrongFalsely : Prop := determinedAnswersRow.holds Try.pinned (OpenSpec.ofChange determinedAnswersWrong)

/-- 'landaidlaw28.DeterminedWithin': WHATEVER THE INPUT: true; the input reads as it did. -/
def determinedWithinSpec : ChangeSpec := { name := "determinedWithin", fn := fun _ => fun
  | [d1, d2] => { results := [.lit (.bool true)], args := [d1, d2] }
  | _ => none }
def determinedWithinRow : OpenClaim := { program := "ytepcelekjjalfaa", sum := "f0ee3444d7c19d917d65711222fd68ec2ce09f0dbb13abeb9731e571b2ff5f46", func := "landaid/landaidlaw28.DeterminedWithin", spec := "determinedWithin", apart := false }
def DeterminedWithinSaid : Prop := determinedWithinRow.holds Try.pinned (OpenSpec.ofChange determinedWithinSpec)

/-- ITS FALSE NEIGHBOUR: 'it returns false'. Refute it at one input. -/
def determinedWithinWrong : ChangeSpec := { name := "determinedWithin", fn := fun _ => fun
  | [d1, d2] => { results := [.lit (.bool false)], args := [d1, d2] }
  | _ => none }
def DeterminedWithinWrongFalsely : Prop := determinedWithinRow.holds Try.pinned (OpenSpec.ofChange determinedWithinWrong)

/-- 'landaidlaw28.DeterminedSeen': WHATEVER THE INPUT: true; the input reads as it did. -/
def determinedSeenSpec : ChangeSpec := { name := "determinedSeen", fn := fun _ => fun
  | [d1, d2] => { results := [.lit (.bool true)], args := [d1, d2] }
  | _ => none }
def determinedSeenRow : OpenClaim := { program := "ytepcelekjjalfaa", sum := "f0ee3444d7c19d917d65711222fd68ec2ce09f0dbb13abeb9731e571b2ff5f46", func := "landaid/landaidlaw28.DeterminedSeen", spec := "determinedSeen", apart := false }
def DeterminedSeenSaid : Prop := determinedSeenRow.holds Try.pinned (OpenSpec.ofChange determinedSeenSpec)

/-- ITS FALSE NEIGHBOUR: 'it returns false'. Refute it at one input. -/
def determinedSeenWrong : ChangeSpec := { name := "determinedSeen", fn := fun _ => fun
  | [d1, d2] => { results := [.lit (.bool false)], args := [d1, d2] }
  | _ => none }
def DeterminedSeenWrongFalsely : Prop := determinedSeenRow.holds Try.pinned (OpenSpec.ofChange determinedSeenWrong)

/-- 'landaidlaw28.DeterminedLess': WHATEVER THE INPUT: true; the input reads as it did. -/
def determinedLessSpec : ChangeSpec := { name := "determinedLess", fn := fun _ => fun
  | [d1, d2] => { results := [.lit (.bool true)], args := [d1, d2] }
  | _ => none }
def determinedLessRow : OpenClaim := { program := "ytepcelekjjalfaa", sum := "f0ee3444d7c19d917d65711222fd68ec2ce09f0dbb13abeb9731e571b2ff5f46", func := "landaid/landaidlaw28.DeterminedLess", spec := "determinedLess", apart := false }
def DeterminedLessSaid : Prop := determinedLessRow.holds Try.pinned (OpenSpec.ofChange determinedLessSpec)

/-- ITS FALSE NEIGHBOUR: 'it returns false'. Refute it at one input. -/
def determinedLessWrong : ChangeSpec := { name := "determinedLess", fn := fun _ => fun
  | [d1, d2] => { results := [.lit (.bool false)], args := [d1, d2] }
  | _ => none }
def DeterminedLessWrongFalsely : Prop := determinedLessRow.holds Try.pinned (OpenSpec.ofChange determinedLessWrong)

/-- 'landaidlaw28.DeterminedNames': WHATEVER THE INPUT: true; the input reads as it did. -/
def determinedNamesSpec : ChangeSpec := { name := "determinedNames", fn := fun _ => fun
  | [d1, d2, d3] => { results := [.lit (.bool true)], args := [d1, d2, d3] }
  | _ => none }
def determinedNamesRow : OpenClaim := { program := "ytepcelekjjalfaa", sum := "f0ee3444d7c19d917d65711222fd68ec2ce09f0dbb13abeb9731e571b2ff5f46", func := "landaid/landaidlaw28.DeterminedNames", spec := "determinedNames", apart := false }
def DeterminedNamesSaid : Prop := determinedNamesRow.holds Try.pinned (OpenSpec.ofChange determinedNamesSpec)

/-- ITS FALSE NEIGHBOUR: 'it returns false'. Refute it at one input. -/
def determinedNamesWrong : ChangeSpec := { name := "determinedNames", fn := fun _ => fun
  | [d1, d2, d3] => { results := [.lit (.bool false)], args := [d1, d2, d3] }
  | _ => none }
def DeterminedNamesWrongFalsely : Prop := determinedNamesRow.holds Try.pinned (OpenSpec.ofChange determinedNamesWrong)

/- THE SECOND FORM. 'bulk': how many values and letters a reading holds, each counted each time it is reached (what is shared counts as often as it is met; a slice's spare places count too). A statement '..UptoSaid' is the law's where the arguments, and the package variables that the reading takes, are together of bulk at most 1048576: NARROWER than '..Said'. Prove '..Said' where nothing that the law and all that it calls make is longer than what came in: it says more and counts as full. Else prove '..UptoSaid'. A law counts once. -/
mutual
def uptoBulk {H : Type} : DataW H → Nat
  | .lit (.string bytes) => bytes.length + 1
  | .lit _ => 1
  | .nil => 1
  | .ptr d => uptoBulk d + 1
  | .slice elems spare => uptoBulkAll elems + uptoBulkAll spare + 1
  | .agg parts => uptoBulkAll parts + 1
  | .iface _ d => uptoBulk d + 1
  | .map entries => uptoBulkEntries entries + 1
  | .held _ => 1
def uptoBulkAll {H : Type} : List (DataW H) → Nat
  | [] => 0
  | d :: r => uptoBulk d + uptoBulkAll r
def uptoBulkEntries {H : Type} : List (Lit × DataW H) → Nat
  | [] => 0
  | x :: r => uptoBulkEntry x + uptoBulkEntries r
def uptoBulkEntry {H : Type} : Lit × DataW H → Nat
  | (.string bytes, d) => bytes.length + uptoBulk d + 1
  | (_, d) => uptoBulk d + 1
 end
def uptoSmall : (H : Type) → List (DataW H) → Bool := fun _ ds => decide (uptoBulkAll ds ≤ 1048576)
def OpenSpec.upto (s : _root_.Go.ChangeSpec) : _root_.Go.OpenSpec := { _root_.Go.OpenSpec.ofChange s with cond := some uptoSmall }

/-- 'landaidlaw28.DeterminedAnswers', WHERE WHAT IT READS IS OF BULK AT MOST 1048576: true; the input reads as it did. -/
def determinedAnswersUptoRow : OpenClaim := { program := "ytepcelekjjalfaa", sum := "f0ee3444d7c19d917d65711222fd68ec2ce09f0dbb13abeb9731e571b2ff5f46", func := "landaid/landaidlaw28.DeterminedAnswers", spec := "determinedAnswers", apart := false, narrowed := true }
def DeterminedAnswersUptoSaid : Prop := determinedAnswersUptoRow.holds Try.pinned (OpenSpec.upto determinedAnswersSpec)

/-- 'landaidlaw28.DeterminedWithin', WHERE WHAT IT READS IS OF BULK AT MOST 1048576: true; the input reads as it did. -/
def determinedWithinUptoRow : OpenClaim := { program := "ytepcelekjjalfaa", sum := "f0ee3444d7c19d917d65711222fd68ec2ce09f0dbb13abeb9731e571b2ff5f46", func := "landaid/landaidlaw28.DeterminedWithin", spec := "determinedWithin", apart := false, narrowed := true }
def DeterminedWithinUptoSaid : Prop := determinedWithinUptoRow.holds Try.pinned (OpenSpec.upto determinedWithinSpec)

/-- 'landaidlaw28.DeterminedSeen', WHERE WHAT IT READS IS OF BULK AT MOST 1048576: true; the input reads as it did. -/
def determinedSeenUptoRow : OpenClaim := { program := "ytepcelekjjalfaa", sum := "f0ee3444d7c19d917d65711222fd68ec2ce09f0dbb13abeb9731e571b2ff5f46", func := "landaid/landaidlaw28.DeterminedSeen", spec := "determinedSeen", apart := false, narrowed := true }
def DeterminedSeenUptoSaid : Prop := determinedSeenUptoRow.holds Try.pinned (OpenSpec.upto determinedSeenSpec)

/-- 'landaidlaw28.DeterminedLess', WHERE WHAT IT READS IS OF BULK AT MOST 1048576: true; the input reads as it did. -/
def determinedLessUptoRow : OpenClaim := { program := "ytepcelekjjalfaa", sum := "f0ee3444d7c19d917d65711222fd68ec2ce09f0dbb13abeb9731e571b2ff5f46", func := "landaid/landaidlaw28.DeterminedLess", spec := "determinedLess", apart := false, narrowed := true }
def DeterminedLessUptoSaid : Prop := determinedLessUptoRow.holds Try.pinned (OpenSpec.upto determinedLessSpec)

/-- 'landaidlaw28.DeterminedNames', WHERE WHAT IT READS IS OF BULK AT MOST 1048576: true; the input reads as it did. -/
def determinedNamesUptoRow : OpenClaim := { program := "ytepcelekjjalfaa", sum := "f0ee3444d7c19d917d65711222fd68ec2ce09f0dbb13abeb9731e571b2ff5f46", func := "landaid/landaidlaw28.DeterminedNames", spec := "determinedNames", apart := false, narrowed := true }
def DeterminedNamesUptoSaid : Prop := determinedNamesUptoRow.holds Try.pinned (OpenSpec.upto determinedNamesSpec)

end Rows
end Go.Proofs.Ytepcelekjjalfaa
