/-
  No cell of these rows narrows 'for every input' (looked for: loops, veiled, ifaces, maps, wideKeys, modest, calm, conditions, laid).
  DERIVED. THE GIVEN ROWS OF THIS SEAT. 5 by the template 'for every input the law returns true; each argument reads behind the call as it read before'; 0 by the template 'total and deterministic' (their statements: YtpcfhcdbibklcaaGreatTotals.lean).
  GIVEN WITH THE SEED: the statements are not yours to turn. If you find one false, say at which input.
  Laid BY PROGRAM, IN A SANDBOX (cutbox-rows.mjs): the forced cells as the released guide's own fill.sh prints them over the translation d7bdcf1a3cfa8646… (all of the seat's roots in one cut). By AI agents, Wed Nov 11 2026. No macro, syntax, notation, axiom, sorry.
-/
import Derived.Test.YtpcfhcdbibklcaaGreatChecked
import GoSem.Claim
import GoSem.ClaimJoined
import GoSem.ClaimMapViews
import Derived.JoinedTies
import Derived.KernelRfl
namespace Go.Proofs.YtpcfhcdbibklcaaGreat
/- THE CELL 'sum', in the pinned program and in every row, IS THE sha256 OF THE DUMP (.gsa) THAT YtpcfhcdbibklcaaGreatProg.lean LOADS. Nothing in Lean hashes anything: it is a label: what it is worth is what the hold of that sum in a sandbox is worth. -/
noncomputable def Tryz.pinned : Pinned := { name := "ytpcfhcdbibklcaagreat", sum := "d7bdcf1a3cfa86465545fd0265d978fdfe0227a4e4f78b1e33b897638e1e294f", checked := Tryz.checked }
namespace Rows
def none {H : Type} : Left H := { results := [], args := [] }

/-- 'landaidlaw05.OutlineBorder': WHATEVER THE INPUT: true; the input reads as it did. -/
def outlineBorderSpec : ChangeSpec := { name := "outlineBorder", fn := fun _ => fun
  | [d] => { results := [.lit (.bool true)], args := [d] }
  | _ => none }
def outlineBorderRow : OpenClaim := { program := "ytpcfhcdbibklcaagreat", sum := "d7bdcf1a3cfa86465545fd0265d978fdfe0227a4e4f78b1e33b897638e1e294f", func := "landaid/landaidlaw05.OutlineBorder", spec := "outlineBorder", unfollowed := true, recurses := true, plainKeys := false, apart := false }
def OutlineBorderSaid : Prop := outlineBorderRow.holds Tryz.pinned (OpenSpec.ofChange outlineBorderSpec)

/-- ITS FALSE NEIGHBOUR: 'it returns false'. Refute it at one input. -/
def outlineBorderWrong : ChangeSpec := { name := "outlineBorder", fn := fun _ => fun
  | [d] => { results := [.lit (.bool false)], args := [d] }
  | _ => none }
def OutlineBorderWrongFalsely : Prop := outlineBorderRow.holds Tryz.pinned (OpenSpec.ofChange outlineBorderWrong)

/-- 'landaidlaw05.OutlineOrder': WHATEVER THE INPUT: true; the input reads as it did. -/
def outlineOrderSpec : ChangeSpec := { name := "outlineOrder", fn := fun _ => fun
  | [d] => { results := [.lit (.bool true)], args := [d] }
  | _ => none }
def outlineOrderRow : OpenClaim := { program := "ytpcfhcdbibklcaagreat", sum := "d7bdcf1a3cfa86465545fd0265d978fdfe0227a4e4f78b1e33b897638e1e294f", func := "landaid/landaidlaw05.OutlineOrder", spec := "outlineOrder", unfollowed := true, recurses := true, plainKeys := false, apart := false }
def OutlineOrderSaid : Prop := outlineOrderRow.holds Tryz.pinned (OpenSpec.ofChange outlineOrderSpec)

/-- ITS FALSE NEIGHBOUR: 'it returns false'. Refute it at one input. -/
def outlineOrderWrong : ChangeSpec := { name := "outlineOrder", fn := fun _ => fun
  | [d] => { results := [.lit (.bool false)], args := [d] }
  | _ => none }
def OutlineOrderWrongFalsely : Prop := outlineOrderRow.holds Tryz.pinned (OpenSpec.ofChange outlineOrderWrong)

/-- 'landaidlaw05.OutlineAnswers': WHATEVER THE INPUT: true; the input reads as it did. -/
def outlineAnswersSpec : ChangeSpec := { name := "outlineAnswers", fn := fun _ => fun
  | [d1, d2, d3] => { results := [.lit (.bool true)], args := [d1, d2, d3] }
  | _ => none }
def outlineAnswersRow : OpenClaim := { program := "ytpcfhcdbibklcaagreat", sum := "d7bdcf1a3cfa86465545fd0265d978fdfe0227a4e4f78b1e33b897638e1e294f", func := "landaid/landaidlaw05.OutlineAnswers", spec := "outlineAnswers", unfollowed := true, recurses := true, plainKeys := false, apart := false }
def OutlineAnswersSaid : Prop := outlineAnswersRow.holds Tryz.pinned (OpenSpec.ofChange outlineAnswersSpec)

/-- ITS FALSE NEIGHBOUR: 'it returns false'. Refute it at one input. -/
def outlineAnswersWrong : ChangeSpec := { name := "outlineAnswers", fn := fun _ => fun
  | [d1, d2, d3] => { results := [.lit (.bool false)], args := [d1, d2, d3] }
  | _ => none }
def OutlineAnswersWrongFalsely : Prop := outlineAnswersRow.holds Tryz.pinned (OpenSpec.ofChange outlineAnswersWrong)

/-- 'landaidlaw05.OutlineBack': WHATEVER THE INPUT: true; the input reads as it did. -/
def outlineBackSpec : ChangeSpec := { name := "outlineBack", fn := fun _ => fun
  | [d] => { results := [.lit (.bool true)], args := [d] }
  | _ => none }
def outlineBackRow : OpenClaim := { program := "ytpcfhcdbibklcaagreat", sum := "d7bdcf1a3cfa86465545fd0265d978fdfe0227a4e4f78b1e33b897638e1e294f", func := "landaid/landaidlaw05.OutlineBack", spec := "outlineBack", unfollowed := true, recurses := true, plainKeys := false, apart := false }
def OutlineBackSaid : Prop := outlineBackRow.holds Tryz.pinned (OpenSpec.ofChange outlineBackSpec)

/-- ITS FALSE NEIGHBOUR: 'it returns false'. Refute it at one input. -/
def outlineBackWrong : ChangeSpec := { name := "outlineBack", fn := fun _ => fun
  | [d] => { results := [.lit (.bool false)], args := [d] }
  | _ => none }
def OutlineBackWrongFalsely : Prop := outlineBackRow.holds Tryz.pinned (OpenSpec.ofChange outlineBackWrong)

/-- 'landaidlaw05.OutlineTurns': WHATEVER THE INPUT: true; the input reads as it did. -/
def outlineTurnsSpec : ChangeSpec := { name := "outlineTurns", fn := fun _ => fun
  | [d] => { results := [.lit (.bool true)], args := [d] }
  | _ => none }
def outlineTurnsRow : OpenClaim := { program := "ytpcfhcdbibklcaagreat", sum := "d7bdcf1a3cfa86465545fd0265d978fdfe0227a4e4f78b1e33b897638e1e294f", func := "landaid/landaidlaw05.OutlineTurns", spec := "outlineTurns", unfollowed := true, recurses := true, plainKeys := false, apart := false }
def OutlineTurnsSaid : Prop := outlineTurnsRow.holds Tryz.pinned (OpenSpec.ofChange outlineTurnsSpec)

/-- ITS FALSE NEIGHBOUR: 'it returns false'. Refute it at one input. -/
def outlineTurnsWrong : ChangeSpec := { name := "outlineTurns", fn := fun _ => fun
  | [d] => { results := [.lit (.bool false)], args := [d] }
  | _ => none }
def OutlineTurnsWrongFalsely : Prop := outlineTurnsRow.holds Tryz.pinned (OpenSpec.ofChange outlineTurnsWrong)

/- THE SECOND FORM. 'bulk': how many values and letters a reading holds, each counted each time it is reached (what is shared counts as often as it is met; a slice's spare places count too). A statement '..UptoSaid' is the law's where the arguments, and the package variables that the reading takes, are together of bulk at most 1048576: NARROWER than '..Said'. Prove '..Said' where nothing that the law and all that it calls make is longer than what came in: it says more and counts as full. Else prove '..UptoSaid'. A law counts once. -/
mutual
def uptoBulk {H : Type} : DataW H → Nat
  | .lit (.string bytes) => bytes.length + 1
  | .lit _ => 1
  | .nil => 1
  | .ptr d => uptoBulk d + 1
  | .slice elems spare => uptoBulkAll elems + uptoBulkAll spare + 1
  | .agg parts => uptoBulkAll parts + 1
  | .iface _ d => uptoBulk d + 1
  | .map entries => uptoBulkEntries entries + 1
  | .held _ => 1
def uptoBulkAll {H : Type} : List (DataW H) → Nat
  | [] => 0
  | d :: r => uptoBulk d + uptoBulkAll r
def uptoBulkEntries {H : Type} : List (Lit × DataW H) → Nat
  | [] => 0
  | x :: r => uptoBulkEntry x + uptoBulkEntries r
def uptoBulkEntry {H : Type} : Lit × DataW H → Nat
  | (.string bytes, d) => bytes.length + uptoBulk d + 1
  | (_, d) => uptoBulk d + 1
 end
def uptoSmall : (H : Type) → List (DataW H) → Bool := fun _ ds => decide (uptoBulkAll ds ≤ 1048576)
def OpenSpec.upto (s : _root_.Go.ChangeSpec) : _root_.Go.OpenSpec := { _root_.Go.OpenSpec.ofChange s with cond := some uptoSmall }

/-- 'landaidlaw05.OutlineBorder', WHERE WHAT IT READS IS OF BULK AT MOST 1048576: true; the input reads as it did. -/
def outlineBorderUptoRow : OpenClaim := { program := "ytpcfhcdbibklcaagreat", sum := "d7bdcf1a3cfa86465545fd0265d978fdfe0227a4e4f78b1e33b897638e1e294f", func := "landaid/landaidlaw05.OutlineBorder", spec := "outlineBorder", unfollowed := true, recurses := true, plainKeys := false, apart := false, narrowed := true }
def OutlineBorderUptoSaid : Prop := outlineBorderUptoRow.holds Tryz.pinned (OpenSpec.upto outlineBorderSpec)

/-- 'landaidlaw05.OutlineOrder', WHERE WHAT IT READS IS OF BULK AT MOST 1048576: true; the input reads as it did. -/
def outlineOrderUptoRow : OpenClaim := { program := "ytpcfhcdbibklcaagreat", sum := "d7bdcf1a3cfa86465545fd0265d978fdfe0227a4e4f78b1e33b897638e1e294f", func := "landaid/landaidlaw05.OutlineOrder", spec := "outlineOrder", unfollowed := true, recurses := true, plainKeys := false, apart := false, narrowed := true }
def OutlineOrderUptoSaid : Prop := outlineOrderUptoRow.holds Tryz.pinned (OpenSpec.upto outlineOrderSpec)

/-- 'landaidlaw05.OutlineAnswers', WHERE WHAT IT READS IS OF BULK AT MOST 1048576: true; the input reads as it did. -/
def outlineAnswersUptoRow : OpenClaim := { program := "ytpcfhcdbibklcaagreat", sum := "d7bdcf1a3cfa86465545fd0265d978fdfe0227a4e4f78b1e33b897638e1e294f", func := "landaid/landaidlaw05.OutlineAnswers", spec := "outlineAnswers", unfollowed := true, recurses := true, plainKeys := false, apart := false, narrowed := true }
def OutlineAnswersUptoSaid : Prop := outlineAnswersUptoRow.holds Tryz.pinned (OpenSpec.upto outlineAnswersSpec)

/-- 'landaidlaw05.OutlineBack', WHERE WHAT IT READS IS OF BULK AT MOST 1048576: true; the input reads as it did. -/
def outlineBackUptoRow : OpenClaim := { program := "ytpcfhcdbibklcaagreat", sum := "d7bdcf1a3cfa86465545fd0265d978fdfe0227a4e4f78b1e33b897638e1e294f", func := "landaid/landaidlaw05.OutlineBack", spec := "outlineBack", unfollowed := true, recurses := true, plainKeys := false, apart := false, narrowed := true }
def OutlineBackUptoSaid : Prop := outlineBackUptoRow.holds Tryz.pinned (OpenSpec.upto outlineBackSpec)

/-- 'landaidlaw05.OutlineTurns', WHERE WHAT IT READS IS OF BULK AT MOST 1048576: true; the input reads as it did. -/
def outlineTurnsUptoRow : OpenClaim := { program := "ytpcfhcdbibklcaagreat", sum := "d7bdcf1a3cfa86465545fd0265d978fdfe0227a4e4f78b1e33b897638e1e294f", func := "landaid/landaidlaw05.OutlineTurns", spec := "outlineTurns", unfollowed := true, recurses := true, plainKeys := false, apart := false, narrowed := true }
def OutlineTurnsUptoSaid : Prop := outlineTurnsUptoRow.holds Tryz.pinned (OpenSpec.upto outlineTurnsSpec)

end Rows
end Go.Proofs.YtpcfhcdbibklcaaGreat
