/-
  No cell of these rows narrows 'for every input' (looked for: loops, veiled, ifaces, maps, wideKeys, modest, calm, conditions, laid).
  DERIVED. THE GIVEN ROWS OF THIS SEAT. 6 by the template 'for every input the law returns true; each argument reads behind the call as it read before'; 0 by the template 'total and deterministic' (their statements: YtglanlpjoaholaaGreatTotals.lean).
  GIVEN WITH THE SEED: the statements are not yours to turn. If you find one false, say at which input.
  Laid BY PROGRAM, IN A SANDBOX (cutbox-rows.mjs): the forced cells as the released guide's own fill.sh prints them over the translation 2c0b611f0aa542db… (all of the seat's roots in one cut). By AI agents, Wed Nov 11 2026. No macro, syntax, notation, axiom, sorry.
-/
import Derived.Test.YtglanlpjoaholaaGreatChecked
import GoSem.Claim
import GoSem.ClaimJoined
import GoSem.ClaimMapViews
import Derived.JoinedTies
import Derived.KernelRfl
namespace Go.Proofs.YtglanlpjoaholaaGreat
/- THE CELL 'sum', in the pinned program and in every row, IS THE sha256 OF THE DUMP (.gsa) THAT YtglanlpjoaholaaGreatProg.lean LOADS. Nothing in Lean hashes anything: it is a label: what it is worth is what the hold of that sum in a sandbox is worth. -/
noncomputable def Tryz.pinned : Pinned := { name := "ytglanlpjoaholaagreat", sum := "2c0b611f0aa542db51e6ad4ff7ca2fdd8c02503a5b99cf9f819050df491629b8", checked := Tryz.checked }
namespace Rows
def none {H : Type} : Left H := { results := [], args := [] }

/-- 'landaidlaw13.ClaimSchemes': WHATEVER THE INPUT: true; the input reads as it did. -/
def claimSchemesSpec : ChangeSpec := { name := "claimSchemes", fn := fun _ => fun
  | [d1, d2] => { results := [.lit (.bool true)], args := [d1, d2] }
  | _ => none }
def claimSchemesRow : OpenClaim := { program := "ytglanlpjoaholaagreat", sum := "2c0b611f0aa542db51e6ad4ff7ca2fdd8c02503a5b99cf9f819050df491629b8", func := "landaid/landaidlaw13.ClaimSchemes", spec := "claimSchemes", unfollowed := true, recurses := true, apart := false }
def ClaimSchemesSaid : Prop := claimSchemesRow.holds Tryz.pinned (OpenSpec.ofChange claimSchemesSpec)

/-- ITS FALSE NEIGHBOUR: 'it returns false'. Refute it at one input. -/
def claimSchemesWrong : ChangeSpec := { name := "claimSchemes", fn := fun _ => fun
  | [d1, d2] => { results := [.lit (.bool false)], args := [d1, d2] }
  | _ => none }
def ClaimSchemesWrongFalsely : Prop := claimSchemesRow.holds Tryz.pinned (OpenSpec.ofChange claimSchemesWrong)

/-- 'landaidlaw13.ClaimOrder': WHATEVER THE INPUT: true; the input reads as it did. -/
def claimOrderSpec : ChangeSpec := { name := "claimOrder", fn := fun _ => fun
  | [d1, d2, d3] => { results := [.lit (.bool true)], args := [d1, d2, d3] }
  | _ => none }
def claimOrderRow : OpenClaim := { program := "ytglanlpjoaholaagreat", sum := "2c0b611f0aa542db51e6ad4ff7ca2fdd8c02503a5b99cf9f819050df491629b8", func := "landaid/landaidlaw13.ClaimOrder", spec := "claimOrder", unfollowed := true, recurses := true, apart := false }
def ClaimOrderSaid : Prop := claimOrderRow.holds Tryz.pinned (OpenSpec.ofChange claimOrderSpec)

/-- ITS FALSE NEIGHBOUR: 'it returns false'. Refute it at one input. -/
def claimOrderWrong : ChangeSpec := { name := "claimOrder", fn := fun _ => fun
  | [d1, d2, d3] => { results := [.lit (.bool false)], args := [d1, d2, d3] }
  | _ => none }
def ClaimOrderWrongFalsely : Prop := claimOrderRow.holds Tryz.pinned (OpenSpec.ofChange claimOrderWrong)

/-- 'landaidlaw13.ClaimRests': WHATEVER THE INPUT: true; the input reads as it did. -/
def claimRestsSpec : ChangeSpec := { name := "claimRests", fn := fun _ => fun
  | [d] => { results := [.lit (.bool true)], args := [d] }
  | _ => none }
def claimRestsRow : OpenClaim := { program := "ytglanlpjoaholaagreat", sum := "2c0b611f0aa542db51e6ad4ff7ca2fdd8c02503a5b99cf9f819050df491629b8", func := "landaid/landaidlaw13.ClaimRests", spec := "claimRests", unfollowed := true, recurses := true, apart := false }
def ClaimRestsSaid : Prop := claimRestsRow.holds Tryz.pinned (OpenSpec.ofChange claimRestsSpec)

/-- ITS FALSE NEIGHBOUR: 'it returns false'. Refute it at one input. -/
def claimRestsWrong : ChangeSpec := { name := "claimRests", fn := fun _ => fun
  | [d] => { results := [.lit (.bool false)], args := [d] }
  | _ => none }
def ClaimRestsWrongFalsely : Prop := claimRestsRow.holds Tryz.pinned (OpenSpec.ofChange claimRestsWrong)

/-- 'landaidlaw13.ClaimOverlaps': WHATEVER THE INPUT: true; the input reads as it did. -/
def claimOverlapsSpec : ChangeSpec := { name := "claimOverlaps", fn := fun _ => fun
  | [d1, d2] => { results := [.lit (.bool true)], args := [d1, d2] }
  | _ => none }
def claimOverlapsRow : OpenClaim := { program := "ytglanlpjoaholaagreat", sum := "2c0b611f0aa542db51e6ad4ff7ca2fdd8c02503a5b99cf9f819050df491629b8", func := "landaid/landaidlaw13.ClaimOverlaps", spec := "claimOverlaps", unfollowed := true, recurses := true, apart := false }
def ClaimOverlapsSaid : Prop := claimOverlapsRow.holds Tryz.pinned (OpenSpec.ofChange claimOverlapsSpec)

/-- ITS FALSE NEIGHBOUR: 'it returns false'. Refute it at one input. -/
def claimOverlapsWrong : ChangeSpec := { name := "claimOverlaps", fn := fun _ => fun
  | [d1, d2] => { results := [.lit (.bool false)], args := [d1, d2] }
  | _ => none }
def ClaimOverlapsWrongFalsely : Prop := claimOverlapsRow.holds Tryz.pinned (OpenSpec.ofChange claimOverlapsWrong)

/-- 'landaidlaw13.ClaimClips': WHATEVER THE INPUT: true; the input reads as it did. -/
def claimClipsSpec : ChangeSpec := { name := "claimClips", fn := fun _ => fun
  | [d] => { results := [.lit (.bool true)], args := [d] }
  | _ => none }
def claimClipsRow : OpenClaim := { program := "ytglanlpjoaholaagreat", sum := "2c0b611f0aa542db51e6ad4ff7ca2fdd8c02503a5b99cf9f819050df491629b8", func := "landaid/landaidlaw13.ClaimClips", spec := "claimClips", unfollowed := true, recurses := true, apart := false }
def ClaimClipsSaid : Prop := claimClipsRow.holds Tryz.pinned (OpenSpec.ofChange claimClipsSpec)

/-- ITS FALSE NEIGHBOUR: 'it returns false'. Refute it at one input. -/
def claimClipsWrong : ChangeSpec := { name := "claimClips", fn := fun _ => fun
  | [d] => { results := [.lit (.bool false)], args := [d] }
  | _ => none }
def ClaimClipsWrongFalsely : Prop := claimClipsRow.holds Tryz.pinned (OpenSpec.ofChange claimClipsWrong)

/-- 'landaidlaw13.ClaimAnswers': WHATEVER THE INPUT: true; the input reads as it did. -/
def claimAnswersSpec : ChangeSpec := { name := "claimAnswers", fn := fun _ => fun
  | [d1, d2, d3, d4, d5, d6] => { results := [.lit (.bool true)], args := [d1, d2, d3, d4, d5, d6] }
  | _ => none }
def claimAnswersRow : OpenClaim := { program := "ytglanlpjoaholaagreat", sum := "2c0b611f0aa542db51e6ad4ff7ca2fdd8c02503a5b99cf9f819050df491629b8", func := "landaid/landaidlaw13.ClaimAnswers", spec := "claimAnswers", unfollowed := true, recurses := true, apart := false }
def ClaimAnswersSaid : Prop := claimAnswersRow.holds Tryz.pinned (OpenSpec.ofChange claimAnswersSpec)

/-- ITS FALSE NEIGHBOUR: 'it returns false'. Refute it at one input. -/
def claimAnswersWrong : ChangeSpec := { name := "claimAnswers", fn := fun _ => fun
  | [d1, d2, d3, d4, d5, d6] => { results := [.lit (.bool false)], args := [d1, d2, d3, d4, d5, d6] }
  | _ => none }
def ClaimAnswersWrongFalsely : Prop := claimAnswersRow.holds Tryz.pinned (OpenSpec.ofChange claimAnswersWrong)

/- THE SECOND FORM. 'bulk': how many values and letters a reading holds, each counted each time it is reached (what is shared counts as often as it is met; a slice's spare places count too). A statement '..UptoSaid' is the law's where the arguments, and the package variables that the reading takes, are together of bulk at most 1048576: NARROWER than '..Said'. Prove '..Said' where nothing that the law and all that it calls make is longer than what came in: it says more and counts as full. Else prove '..UptoSaid'. A law counts once. -/
mutual
def uptoBulk {H : Type} : DataW H → Nat
  | .lit (.string bytes) => bytes.length + 1
  | .lit _ => 1
  | .nil => 1
  | .ptr d => uptoBulk d + 1
  | .slice elems spare => uptoBulkAll elems + uptoBulkAll spare + 1
  | .agg parts => uptoBulkAll parts + 1
  | .iface _ d => uptoBulk d + 1
  | .map entries => uptoBulkEntries entries + 1
  | .held _ => 1
def uptoBulkAll {H : Type} : List (DataW H) → Nat
  | [] => 0
  | d :: r => uptoBulk d + uptoBulkAll r
def uptoBulkEntries {H : Type} : List (Lit × DataW H) → Nat
  | [] => 0
  | x :: r => uptoBulkEntry x + uptoBulkEntries r
def uptoBulkEntry {H : Type} : Lit × DataW H → Nat
  | (.string bytes, d) => bytes.length + uptoBulk d + 1
  | (_, d) => uptoBulk d + 1
 end
def uptoSmall : (H : Type) → List (DataW H) → Bool := fun _ ds => decide (uptoBulkAll ds ≤ 1048576)
def OpenSpec.upto (s : _root_.Go.ChangeSpec) : _root_.Go.OpenSpec := { _root_.Go.OpenSpec.ofChange s with cond := some uptoSmall }

/-- 'landaidlaw13.ClaimSchemes', WHERE WHAT IT READS IS OF BULK AT MOST 1048576: true; the input reads as it did. -/
def claimSchemesUptoRow : OpenClaim := { program := "ytglanlpjoaholaagreat", sum := "2c0b611f0aa542db51e6ad4ff7ca2fdd8c02503a5b99cf9f819050df491629b8", func := "landaid/landaidlaw13.ClaimSchemes", spec := "claimSchemes", unfollowed := true, recurses := true, apart := false, narrowed := true }
def ClaimSchemesUptoSaid : Prop := claimSchemesUptoRow.holds Tryz.pinned (OpenSpec.upto claimSchemesSpec)

/-- 'landaidlaw13.ClaimOrder', WHERE WHAT IT READS IS OF BULK AT MOST 1048576: true; the input reads as it did. -/
def claimOrderUptoRow : OpenClaim := { program := "ytglanlpjoaholaagreat", sum := "2c0b611f0aa542db51e6ad4ff7ca2fdd8c02503a5b99cf9f819050df491629b8", func := "landaid/landaidlaw13.ClaimOrder", spec := "claimOrder", unfollowed := true, recurses := true, apart := false, narrowed := true }
def ClaimOrderUptoSaid : Prop := claimOrderUptoRow.holds Tryz.pinned (OpenSpec.upto claimOrderSpec)

/-- 'landaidlaw13.ClaimRests', WHERE WHAT IT READS IS OF BULK AT MOST 1048576: true; the input reads as it did. -/
def claimRestsUptoRow : OpenClaim := { program := "ytglanlpjoaholaagreat", sum := "2c0b611f0aa542db51e6ad4ff7ca2fdd8c02503a5b99cf9f819050df491629b8", func := "landaid/landaidlaw13.ClaimRests", spec := "claimRests", unfollowed := true, recurses := true, apart := false, narrowed := true }
def ClaimRestsUptoSaid : Prop := claimRestsUptoRow.holds Tryz.pinned (OpenSpec.upto claimRestsSpec)

/-- 'landaidlaw13.ClaimOverlaps', WHERE WHAT IT READS IS OF BULK AT MOST 1048576: true; the input reads as it did. -/
def claimOverlapsUptoRow : OpenClaim := { program := "ytglanlpjoaholaagreat", sum := "2c0b611f0aa542db51e6ad4ff7ca2fdd8c02503a5b99cf9f819050df491629b8", func := "landaid/landaidlaw13.ClaimOverlaps", spec := "claimOverlaps", unfollowed := true, recurses := true, apart := false, narrowed := true }
def ClaimOverlapsUptoSaid : Prop := claimOverlapsUptoRow.holds Tryz.pinned (OpenSpec.upto claimOverlapsSpec)

/-- 'landaidlaw13.ClaimClips', WHERE WHAT IT READS IS OF BULK AT MOST 1048576: true; the input reads as it did. -/
def claimClipsUptoRow : OpenClaim := { program := "ytglanlpjoaholaagreat", sum := "2c0b611f0aa542db51e6ad4ff7ca2fdd8c02503a5b99cf9f819050df491629b8", func := "landaid/landaidlaw13.ClaimClips", spec := "claimClips", unfollowed := true, recurses := true, apart := false, narrowed := true }
def ClaimClipsUptoSaid : Prop := claimClipsUptoRow.holds Tryz.pinned (OpenSpec.upto claimClipsSpec)

/-- 'landaidlaw13.ClaimAnswers', WHERE WHAT IT READS IS OF BULK AT MOST 1048576: true; the input reads as it did. -/
def claimAnswersUptoRow : OpenClaim := { program := "ytglanlpjoaholaagreat", sum := "2c0b611f0aa542db51e6ad4ff7ca2fdd8c02503a5b99cf9f819050df491629b8", func := "landaid/landaidlaw13.ClaimAnswers", spec := "claimAnswers", unfollowed := true, recurses := true, apart := false, narrowed := true }
def ClaimAnswersUptoSaid : Prop := claimAnswersUptoRow.holds Tryz.pinned (OpenSpec.upto claimAnswersSpec)

end Rows
end Go.Proofs.YtglanlpjoaholaaGreat
