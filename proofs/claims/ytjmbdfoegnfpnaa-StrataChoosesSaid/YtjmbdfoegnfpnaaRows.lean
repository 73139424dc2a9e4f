/-
  No cell of these rows narrows 'for every input' (looked for: loops, veiled, ifaces, maps, wideKeys, modest, calm, conditions, laid).
  DERIVED. THE GIVEN ROWS OF THIS SEAT. 6 by the template 'for every input the law returns true; each argument reads behind the call as it read before'; 0 by the template 'total and deterministic' (their statements: YtjmbdfoegnfpnaaTotals.lean).
  GIVEN WITH THE SEED: the statements are not yours to turn. If you find one false, say at which input.
  Laid BY PROGRAM, IN A SANDBOX (cutbox-rows.mjs): the forced cells as the released guide's own fill.sh prints them over the translation 0e7da9811fae4677… (all of the seat's roots in one cut). By AI agents, Wed Nov 11 2026. No macro, syntax, notation, axiom, sorry.
-/
import Derived.Test.YtjmbdfoegnfpnaaChecked
import GoSem.Claim
import GoSem.ClaimJoined
import GoSem.ClaimMapViews
import Derived.JoinedTies
import Derived.KernelRfl
namespace Go.Proofs.Ytjmbdfoegnfpnaa
/- THE CELL 'sum', in the pinned program and in every row, IS THE sha256 OF THE DUMP (.gsa) THAT YtjmbdfoegnfpnaaProg.lean LOADS. Nothing in Lean hashes anything: it is a label: what it is worth is what the hold of that sum in a sandbox is worth. -/
noncomputable def Try.pinned : Pinned := { name := "ytjmbdfoegnfpnaa", sum := "0e7da9811fae46776220fac837865739f02a117d7180f904fff826a9f07419c6", checked := Try.checked }
namespace Rows
def none {H : Type} : Left H := { results := [], args := [] }

/-- 'landaidlaw25.StrataChecks': WHATEVER THE INPUT: true; the input reads as it did. -/
def strataChecksSpec : ChangeSpec := { name := "strataChecks", fn := fun _ => fun
  | [d1, d2, d3, d4, d5, d6, d7] => { results := [.lit (.bool true)], args := [d1, d2, d3, d4, d5, d6, d7] }
  | _ => none }
def strataChecksRow : OpenClaim := { program := "ytjmbdfoegnfpnaa", sum := "0e7da9811fae46776220fac837865739f02a117d7180f904fff826a9f07419c6", func := "landaid/landaidlaw25.StrataChecks", spec := "strataChecks", unfollowed := true, recurses := true, apart := false }
def StrataChecksSaid : Prop := strataChecksRow.holds Try.pinned (OpenSpec.ofChange strataChecksSpec)

/-- ITS FALSE NEIGHBOUR: 'it returns false'. Refute it at one input. -/
def strataChecksWrong : ChangeSpec := { name := "strataChecks", fn := fun _ => fun
  | [d1, d2, d3, d4, d5, d6, d7] => { results := [.lit (.bool false)], args := [d1, d2, d3, d4, d5, d6, d7] }
  | _ => none }
def StrataChecksWrongFalsely : Prop := strataChecksRow.holds Try.pinned (OpenSpec.ofChange strataChecksWrong)

/-- 'landaidlaw25.StrataChooses': WHATEVER THE INPUT: true; the input reads as it did. -/
def strataChoosesSpec : ChangeSpec := { name := "strataChooses", fn := fun _ => fun
  | [d1, d2, d3, d4] => { results := [.lit (.bool true)], args := [d1, d2, d3, d4] }
  | _ => none }
def strataChoosesRow : OpenClaim := { program := "ytjmbdfoegnfpnaa", sum := "0e7da9811fae46776220fac837865739f02a117d7180f904fff826a9f07419c6", func := "landaid/landaidlaw25.StrataChooses", spec := "strataChooses", unfollowed := true, recurses := true, apart := false }
def StrataChoosesSaid : Prop := strataChoosesRow.holds Try.pinned (OpenSpec.ofChange strataChoosesSpec)

/-- ITS FALSE NEIGHBOUR: 'it returns false'. Refute it at one input. -/
def strataChoosesWrong : ChangeSpec := { name := "strataChooses", fn := fun _ => fun
  | [d1, d2, d3, d4] => { results := [.lit (.bool false)], args := [d1, d2, d3, d4] }
  | _ => none }
def StrataChoosesWrongFalsely : Prop := strataChoosesRow.holds Try.pinned (OpenSpec.ofChange strataChoosesWrong)

/-- 'landaidlaw25.StrataOnce': WHATEVER THE INPUT: true; the input reads as it did. -/
def strataOnceSpec : ChangeSpec := { name := "strataOnce", fn := fun _ => fun
  | [d1, d2] => { results := [.lit (.bool true)], args := [d1, d2] }
  | _ => none }
def strataOnceRow : OpenClaim := { program := "ytjmbdfoegnfpnaa", sum := "0e7da9811fae46776220fac837865739f02a117d7180f904fff826a9f07419c6", func := "landaid/landaidlaw25.StrataOnce", spec := "strataOnce", unfollowed := true, recurses := true, apart := false }
def StrataOnceSaid : Prop := strataOnceRow.holds Try.pinned (OpenSpec.ofChange strataOnceSpec)

/-- ITS FALSE NEIGHBOUR: 'it returns false'. Refute it at one input. -/
def strataOnceWrong : ChangeSpec := { name := "strataOnce", fn := fun _ => fun
  | [d1, d2] => { results := [.lit (.bool false)], args := [d1, d2] }
  | _ => none }
def StrataOnceWrongFalsely : Prop := strataOnceRow.holds Try.pinned (OpenSpec.ofChange strataOnceWrong)

/-- 'landaidlaw25.StrataGrows': WHATEVER THE INPUT: true; the input reads as it did. -/
def strataGrowsSpec : ChangeSpec := { name := "strataGrows", fn := fun _ => fun
  | [d1, d2] => { results := [.lit (.bool true)], args := [d1, d2] }
  | _ => none }
def strataGrowsRow : OpenClaim := { program := "ytjmbdfoegnfpnaa", sum := "0e7da9811fae46776220fac837865739f02a117d7180f904fff826a9f07419c6", func := "landaid/landaidlaw25.StrataGrows", spec := "strataGrows", unfollowed := true, recurses := true, apart := false }
def StrataGrowsSaid : Prop := strataGrowsRow.holds Try.pinned (OpenSpec.ofChange strataGrowsSpec)

/-- ITS FALSE NEIGHBOUR: 'it returns false'. Refute it at one input. -/
def strataGrowsWrong : ChangeSpec := { name := "strataGrows", fn := fun _ => fun
  | [d1, d2] => { results := [.lit (.bool false)], args := [d1, d2] }
  | _ => none }
def StrataGrowsWrongFalsely : Prop := strataGrowsRow.holds Try.pinned (OpenSpec.ofChange strataGrowsWrong)

/-- 'landaidlaw25.StrataScores': WHATEVER THE INPUT: true; the input reads as it did. -/
def strataScoresSpec : ChangeSpec := { name := "strataScores", fn := fun _ => fun
  | [d1, d2, d3] => { results := [.lit (.bool true)], args := [d1, d2, d3] }
  | _ => none }
def strataScoresRow : OpenClaim := { program := "ytjmbdfoegnfpnaa", sum := "0e7da9811fae46776220fac837865739f02a117d7180f904fff826a9f07419c6", func := "landaid/landaidlaw25.StrataScores", spec := "strataScores", unfollowed := true, recurses := true, apart := false }
def StrataScoresSaid : Prop := strataScoresRow.holds Try.pinned (OpenSpec.ofChange strataScoresSpec)

/-- ITS FALSE NEIGHBOUR: 'it returns false'. Refute it at one input. -/
def strataScoresWrong : ChangeSpec := { name := "strataScores", fn := fun _ => fun
  | [d1, d2, d3] => { results := [.lit (.bool false)], args := [d1, d2, d3] }
  | _ => none }
def StrataScoresWrongFalsely : Prop := strataScoresRow.holds Try.pinned (OpenSpec.ofChange strataScoresWrong)

/-- 'landaidlaw25.StrataRandom': WHATEVER THE INPUT: true; the input reads as it did. -/
def strataRandomSpec : ChangeSpec := { name := "strataRandom", fn := fun _ => fun
  | [d1, d2] => { results := [.lit (.bool true)], args := [d1, d2] }
  | _ => none }
def strataRandomRow : OpenClaim := { program := "ytjmbdfoegnfpnaa", sum := "0e7da9811fae46776220fac837865739f02a117d7180f904fff826a9f07419c6", func := "landaid/landaidlaw25.StrataRandom", spec := "strataRandom", unfollowed := true, recurses := true, apart := false }
def StrataRandomSaid : Prop := strataRandomRow.holds Try.pinned (OpenSpec.ofChange strataRandomSpec)

/-- ITS FALSE NEIGHBOUR: 'it returns false'. Refute it at one input. -/
def strataRandomWrong : ChangeSpec := { name := "strataRandom", fn := fun _ => fun
  | [d1, d2] => { results := [.lit (.bool false)], args := [d1, d2] }
  | _ => none }
def StrataRandomWrongFalsely : Prop := strataRandomRow.holds Try.pinned (OpenSpec.ofChange strataRandomWrong)

/- THE SECOND FORM. 'bulk': how many values and letters a reading holds, each counted each time it is reached (what is shared counts as often as it is met; a slice's spare places count too). A statement '..UptoSaid' is the law's where the arguments, and the package variables that the reading takes, are together of bulk at most 1048576: NARROWER than '..Said'. Prove '..Said' where nothing that the law and all that it calls make is longer than what came in: it says more and counts as full. Else prove '..UptoSaid'. A law counts once. -/
mutual
def uptoBulk {H : Type} : DataW H → Nat
  | .lit (.string bytes) => bytes.length + 1
  | .lit _ => 1
  | .nil => 1
  | .ptr d => uptoBulk d + 1
  | .slice elems spare => uptoBulkAll elems + uptoBulkAll spare + 1
  | .agg parts => uptoBulkAll parts + 1
  | .iface _ d => uptoBulk d + 1
  | .map entries => uptoBulkEntries entries + 1
  | .held _ => 1
def uptoBulkAll {H : Type} : List (DataW H) → Nat
  | [] => 0
  | d :: r => uptoBulk d + uptoBulkAll r
def uptoBulkEntries {H : Type} : List (Lit × DataW H) → Nat
  | [] => 0
  | x :: r => uptoBulkEntry x + uptoBulkEntries r
def uptoBulkEntry {H : Type} : Lit × DataW H → Nat
  | (.string bytes, d) => bytes.length + uptoBulk d + 1
  | (_, d) => uptoBulk d + 1
 end
def uptoSmall : (H : Type) → List (DataW H) → Bool := fun _ ds => decide (uptoBulkAll ds ≤ 1048576)
def OpenSpec.upto (s : _root_.Go.ChangeSpec) : _root_.Go.OpenSpec := { _root_.Go.OpenSpec.ofChange s with cond := some uptoSmall }

/-- 'landaidlaw25.StrataChecks', WHERE WHAT IT READS IS OF BULK AT MOST 1048576: true; the input reads as it did. -/
def strataChecksUptoRow : OpenClaim := { program := "ytjmbdfoegnfpnaa", sum := "0e7da9811fae46776220fac837865739f02a117d7180f904fff826a9f07419c6", func := "landaid/landaidlaw25.StrataChecks", spec := "strataChecks", unfollowed := true, recurses := true, apart := false, narrowed := true }
def StrataChecksUptoSaid : Prop := strataChecksUptoRow.holds Try.pinned (OpenSpec.upto strataChecksSpec)

/-- 'landaidlaw25.StrataChooses', WHERE WHAT IT READS IS OF BULK AT MOST 1048576: true; the input reads as it did. -/
def strataChoosesUptoRow : OpenClaim := { program := "ytjmbdfoegnfpnaa", sum := "0e7da9811fae46776220fac837865739f02a117d7180f904fff826a9f07419c6", func := "landaid/landaidlaw25.StrataChooses", spec := "strataChooses", unfollowed := true, recurses := true, apart := false, narrowed := true }
def StrataChoosesUptoSaid : Prop := strataChoosesUptoRow.holds Try.pinned (OpenSpec.upto strataChoosesSpec)

/-- 'landaidlaw25.StrataOnce', WHERE WHAT IT READS IS OF BULK AT MOST 1048576: true; the input reads as it did. -/
def strataOnceUptoRow : OpenClaim := { program := "ytjmbdfoegnfpnaa", sum := "0e7da9811fae46776220fac837865739f02a117d7180f904fff826a9f07419c6", func := "landaid/landaidlaw25.StrataOnce", spec := "strataOnce", unfollowed := true, recurses := true, apart := false, narrowed := true }
def StrataOnceUptoSaid : Prop := strataOnceUptoRow.holds Try.pinned (OpenSpec.upto strataOnceSpec)

/-- 'landaidlaw25.StrataGrows', WHERE WHAT IT READS IS OF BULK AT MOST 1048576: true; the input reads as it did. -/
def strataGrowsUptoRow : OpenClaim := { program := "ytjmbdfoegnfpnaa", sum := "0e7da9811fae46776220fac837865739f02a117d7180f904fff826a9f07419c6", func := "landaid/landaidlaw25.StrataGrows", spec := "strataGrows", unfollowed := true, recurses := true, apart := false, narrowed := true }
def StrataGrowsUptoSaid : Prop := strataGrowsUptoRow.holds Try.pinned (OpenSpec.upto strataGrowsSpec)

/-- 'landaidlaw25.StrataScores', WHERE WHAT IT READS IS OF BULK AT MOST 1048576: true; the input reads as it did. -/
def strataScoresUptoRow : OpenClaim := { program := "ytjmbdfoegnfpnaa", sum := "0e7da9811fae46776220fac837865739f02a117d7180f904fff826a9f07419c6", func := "landaid/landaidlaw25.StrataScores", spec := "strataScores", unfollowed := true, recurses := true, apart := false, narrowed := true }
def StrataScoresUptoSaid : Prop := strataScoresUptoRow.holds Try.pinned (OpenSpec.upto strataScoresSpec)

/-- 'landaidlaw25.StrataRandom', WHERE WHAT IT READS IS OF BULK AT MOST 1048576: true; the input reads as it did. -/
def strataRandomUptoRow : OpenClaim := { program := "ytjmbdfoegnfpnaa", sum := "0e7da9811fae46776220fac837865739f02a117d7180f904fff826a9f07419c6", func := "landaid/landaidlaw25.StrataRandom", spec := "strataRandom", unfollowed := true, recurses := true, apart := false, narrowed := true }
def StrataRandomUptoSaid : Prop := strataRandomUptoRow.holds Try.pinned (OpenSpec.upto strataRandomSpec)

end Rows
end Go.Proofs.Ytjmbdfoegnfpnaa
