/-
  No cell of these rows narrows 'for every input' (looked for: loops, veiled, ifaces, maps, wideKeys, modest, calm, conditions, laid).
  DERIVED. THE GIVEN ROWS OF THIS SEAT. 6 by the template 'for every input the law returns true; each argument reads behind the call as it read before'; 0 by the template 'total and deterministic' (their statements: YtbkfdpdcnjecbaaTotals.lean).
  GIVEN WITH THE SEED: the statements are not yours to turn. If you find one false, say at which input.
  Laid BY PROGRAM, IN A SANDBOX (cutbox-rows.mjs): the forced cells as the released guide's own fill.sh prints them over the translation 4cbc66c35fe51816… (all of the seat's roots in one cut). By AI agents, Wed Nov 11 2026. No macro, syntax, notation, axiom, sorry.
-/
import Derived.Test.YtbkfdpdcnjecbaaChecked
import GoSem.Claim
import GoSem.ClaimJoined
import GoSem.ClaimMapViews
import Derived.JoinedTies
import Derived.KernelRfl
namespace Go.Proofs.Ytbkfdpdcnjecbaa
/- THE CELL 'sum', in the pinned program and in every row, IS THE sha256 OF THE DUMP (.gsa) THAT YtbkfdpdcnjecbaaProg.lean LOADS. Nothing in Lean hashes anything: it is a label: what it is worth is what the hold of that sum in a sandbox is worth. -/
noncomputable def Try.pinned : Pinned := { name := "ytbkfdpdcnjecbaa", sum := "4cbc66c35fe518163395b2554b9c8454c2fac993ce11ab966e27f35f27ea4e8a", checked := Try.checked }
namespace Rows
def none {H : Type} : Left H := { results := [], args := [] }

/-- 'landaidlaw40.PaymentsSafe': WHATEVER THE INPUT: true; the input reads as it did. -/
def paymentsSafeSpec : ChangeSpec := { name := "paymentsSafe", fn := fun _ => fun
  | [d1, d2] => { results := [.lit (.bool true)], args := [d1, d2] }
  | _ => none }
def paymentsSafeRow : OpenClaim := { program := "ytbkfdpdcnjecbaa", sum := "4cbc66c35fe518163395b2554b9c8454c2fac993ce11ab966e27f35f27ea4e8a", func := "landaid/landaidlaw40.PaymentsSafe", spec := "paymentsSafe", unfollowed := true, recurses := true, apart := false }
def PaymentsSafeSaid : Prop := paymentsSafeRow.holds Try.pinned (OpenSpec.ofChange paymentsSafeSpec)

/-- ITS FALSE NEIGHBOUR: 'it returns false'. Refute it at one input. -/
def paymentsSafeWrong : ChangeSpec := { name := "paymentsSafe", fn := fun _ => fun
  | [d1, d2] => { results := [.lit (.bool false)], args := [d1, d2] }
  | _ => none }
def PaymentsSafeWrongFalsely : Prop := paymentsSafeRow.holds Try.pinned (OpenSpec.ofChange paymentsSafeWrong)

/-- 'landaidlaw40.PaymentsNotices': WHATEVER THE INPUT: true; the input reads as it did. -/
def paymentsNoticesSpec : ChangeSpec := { name := "paymentsNotices", fn := fun _ => fun
  | [d1, d2, d3] => { results := [.lit (.bool true)], args := [d1, d2, d3] }
  | _ => none }
def paymentsNoticesRow : OpenClaim := { program := "ytbkfdpdcnjecbaa", sum := "4cbc66c35fe518163395b2554b9c8454c2fac993ce11ab966e27f35f27ea4e8a", func := "landaid/landaidlaw40.PaymentsNotices", spec := "paymentsNotices", unfollowed := true, recurses := true, apart := false }
def PaymentsNoticesSaid : Prop := paymentsNoticesRow.holds Try.pinned (OpenSpec.ofChange paymentsNoticesSpec)

/-- ITS FALSE NEIGHBOUR: 'it returns false'. Refute it at one input. -/
def paymentsNoticesWrong : ChangeSpec := { name := "paymentsNotices", fn := fun _ => fun
  | [d1, d2, d3] => { results := [.lit (.bool false)], args := [d1, d2, d3] }
  | _ => none }
def PaymentsNoticesWrongFalsely : Prop := paymentsNoticesRow.holds Try.pinned (OpenSpec.ofChange paymentsNoticesWrong)

/-- 'landaidlaw40.PaymentsOnce': WHATEVER THE INPUT: true; the input reads as it did. -/
def paymentsOnceSpec : ChangeSpec := { name := "paymentsOnce", fn := fun _ => fun
  | [d1, d2] => { results := [.lit (.bool true)], args := [d1, d2] }
  | _ => none }
def paymentsOnceRow : OpenClaim := { program := "ytbkfdpdcnjecbaa", sum := "4cbc66c35fe518163395b2554b9c8454c2fac993ce11ab966e27f35f27ea4e8a", func := "landaid/landaidlaw40.PaymentsOnce", spec := "paymentsOnce", unfollowed := true, recurses := true, apart := false }
def PaymentsOnceSaid : Prop := paymentsOnceRow.holds Try.pinned (OpenSpec.ofChange paymentsOnceSpec)

/-- ITS FALSE NEIGHBOUR: 'it returns false'. Refute it at one input. -/
def paymentsOnceWrong : ChangeSpec := { name := "paymentsOnce", fn := fun _ => fun
  | [d1, d2] => { results := [.lit (.bool false)], args := [d1, d2] }
  | _ => none }
def PaymentsOnceWrongFalsely : Prop := paymentsOnceRow.holds Try.pinned (OpenSpec.ofChange paymentsOnceWrong)

/-- 'landaidlaw40.PaymentsSyncs': WHATEVER THE INPUT: true; the input reads as it did. -/
def paymentsSyncsSpec : ChangeSpec := { name := "paymentsSyncs", fn := fun _ => fun
  | [d1, d2] => { results := [.lit (.bool true)], args := [d1, d2] }
  | _ => none }
def paymentsSyncsRow : OpenClaim := { program := "ytbkfdpdcnjecbaa", sum := "4cbc66c35fe518163395b2554b9c8454c2fac993ce11ab966e27f35f27ea4e8a", func := "landaid/landaidlaw40.PaymentsSyncs", spec := "paymentsSyncs", unfollowed := true, recurses := true, apart := false }
def PaymentsSyncsSaid : Prop := paymentsSyncsRow.holds Try.pinned (OpenSpec.ofChange paymentsSyncsSpec)

/-- ITS FALSE NEIGHBOUR: 'it returns false'. Refute it at one input. -/
def paymentsSyncsWrong : ChangeSpec := { name := "paymentsSyncs", fn := fun _ => fun
  | [d1, d2] => { results := [.lit (.bool false)], args := [d1, d2] }
  | _ => none }
def PaymentsSyncsWrongFalsely : Prop := paymentsSyncsRow.holds Try.pinned (OpenSpec.ofChange paymentsSyncsWrong)

/-- 'landaidlaw40.PaymentsRecords': WHATEVER THE INPUT: true; the input reads as it did. -/
def paymentsRecordsSpec : ChangeSpec := { name := "paymentsRecords", fn := fun _ => fun
  | [d] => { results := [.lit (.bool true)], args := [d] }
  | _ => none }
def paymentsRecordsRow : OpenClaim := { program := "ytbkfdpdcnjecbaa", sum := "4cbc66c35fe518163395b2554b9c8454c2fac993ce11ab966e27f35f27ea4e8a", func := "landaid/landaidlaw40.PaymentsRecords", spec := "paymentsRecords", unfollowed := true, recurses := true, apart := false }
def PaymentsRecordsSaid : Prop := paymentsRecordsRow.holds Try.pinned (OpenSpec.ofChange paymentsRecordsSpec)

/-- ITS FALSE NEIGHBOUR: 'it returns false'. Refute it at one input. -/
def paymentsRecordsWrong : ChangeSpec := { name := "paymentsRecords", fn := fun _ => fun
  | [d] => { results := [.lit (.bool false)], args := [d] }
  | _ => none }
def PaymentsRecordsWrongFalsely : Prop := paymentsRecordsRow.holds Try.pinned (OpenSpec.ofChange paymentsRecordsWrong)

/-- 'landaidlaw40.PaymentsAnswers': WHATEVER THE INPUT: true; the input reads as it did. -/
def paymentsAnswersSpec : ChangeSpec := { name := "paymentsAnswers", fn := fun _ => fun
  | [d1, d2, d3, d4, d5, d6, d7] => { results := [.lit (.bool true)], args := [d1, d2, d3, d4, d5, d6, d7] }
  | _ => none }
def paymentsAnswersRow : OpenClaim := { program := "ytbkfdpdcnjecbaa", sum := "4cbc66c35fe518163395b2554b9c8454c2fac993ce11ab966e27f35f27ea4e8a", func := "landaid/landaidlaw40.PaymentsAnswers", spec := "paymentsAnswers", unfollowed := true, recurses := true, apart := false }
def PaymentsAnswersSaid : Prop := paymentsAnswersRow.holds Try.pinned (OpenSpec.ofChange paymentsAnswersSpec)

/-- ITS FALSE NEIGHBOUR: 'it returns false'. Refute it at one input. -/
def paymentsAnswersWrong : ChangeSpec := { name := "paymentsAnswers", fn := fun _ => fun
  | [d1, d2, d3, d4, d5, d6, d7] => { results := [.lit (.bool false)], args := [d1, d2, d3, d4, d5, d6, d7] }
  | _ => none }
def PaymentsAnswersWrongFalsely : Prop := paymentsAnswersRow.holds Try.pinned (OpenSpec.ofChange paymentsAnswersWrong)

/- THE SECOND FORM. 'bulk': how many values and letters a reading holds, each counted each time it is reached (what is shared counts as often as it is met; a slice's spare places count too). A statement '..UptoSaid' is the law's where the arguments, and the package variables that the reading takes, are together of bulk at most 1048576: NARROWER than '..Said'. Prove '..Said' where nothing that the law and all that it calls make is longer than what came in: it says more and counts as full. Else prove '..UptoSaid'. A law counts once. -/
mutual
def uptoBulk {H : Type} : DataW H → Nat
  | .lit (.string bytes) => bytes.length + 1
  | .lit _ => 1
  | .nil => 1
  | .ptr d => uptoBulk d + 1
  | .slice elems spare => uptoBulkAll elems + uptoBulkAll spare + 1
  | .agg parts => uptoBulkAll parts + 1
  | .iface _ d => uptoBulk d + 1
  | .map entries => uptoBulkEntries entries + 1
  | .held _ => 1
def uptoBulkAll {H : Type} : List (DataW H) → Nat
  | [] => 0
  | d :: r => uptoBulk d + uptoBulkAll r
def uptoBulkEntries {H : Type} : List (Lit × DataW H) → Nat
  | [] => 0
  | x :: r => uptoBulkEntry x + uptoBulkEntries r
def uptoBulkEntry {H : Type} : Lit × DataW H → Nat
  | (.string bytes, d) => bytes.length + uptoBulk d + 1
  | (_, d) => uptoBulk d + 1
 end
def uptoSmall : (H : Type) → List (DataW H) → Bool := fun _ ds => decide (uptoBulkAll ds ≤ 1048576)
def OpenSpec.upto (s : _root_.Go.ChangeSpec) : _root_.Go.OpenSpec := { _root_.Go.OpenSpec.ofChange s with cond := some uptoSmall }

/-- 'landaidlaw40.PaymentsSafe', WHERE WHAT IT READS IS OF BULK AT MOST 1048576: true; the input reads as it did. -/
def paymentsSafeUptoRow : OpenClaim := { program := "ytbkfdpdcnjecbaa", sum := "4cbc66c35fe518163395b2554b9c8454c2fac993ce11ab966e27f35f27ea4e8a", func := "landaid/landaidlaw40.PaymentsSafe", spec := "paymentsSafe", unfollowed := true, recurses := true, apart := false, narrowed := true }
def PaymentsSafeUptoSaid : Prop := paymentsSafeUptoRow.holds Try.pinned (OpenSpec.upto paymentsSafeSpec)

/-- 'landaidlaw40.PaymentsNotices', WHERE WHAT IT READS IS OF BULK AT MOST 1048576: true; the input reads as it did. -/
def paymentsNoticesUptoRow : OpenClaim := { program := "ytbkfdpdcnjecbaa", sum := "4cbc66c35fe518163395b2554b9c8454c2fac993ce11ab966e27f35f27ea4e8a", func := "landaid/landaidlaw40.PaymentsNotices", spec := "paymentsNotices", unfollowed := true, recurses := true, apart := false, narrowed := true }
def PaymentsNoticesUptoSaid : Prop := paymentsNoticesUptoRow.holds Try.pinned (OpenSpec.upto paymentsNoticesSpec)

/-- 'landaidlaw40.PaymentsOnce', WHERE WHAT IT READS IS OF BULK AT MOST 1048576: true; the input reads as it did. -/
def paymentsOnceUptoRow : OpenClaim := { program := "ytbkfdpdcnjecbaa", sum := "4cbc66c35fe518163395b2554b9c8454c2fac993ce11ab966e27f35f27ea4e8a", func := "landaid/landaidlaw40.PaymentsOnce", spec := "paymentsOnce", unfollowed := true, recurses := true, apart := false, narrowed := true }
def PaymentsOnceUptoSaid : Prop := paymentsOnceUptoRow.holds Try.pinned (OpenSpec.upto paymentsOnceSpec)

/-- 'landaidlaw40.PaymentsSyncs', WHERE WHAT IT READS IS OF BULK AT MOST 1048576: true; the input reads as it did. -/
def paymentsSyncsUptoRow : OpenClaim := { program := "ytbkfdpdcnjecbaa", sum := "4cbc66c35fe518163395b2554b9c8454c2fac993ce11ab966e27f35f27ea4e8a", func := "landaid/landaidlaw40.PaymentsSyncs", spec := "paymentsSyncs", unfollowed := true, recurses := true, apart := false, narrowed := true }
def PaymentsSyncsUptoSaid : Prop := paymentsSyncsUptoRow.holds Try.pinned (OpenSpec.upto paymentsSyncsSpec)

/-- 'landaidlaw40.PaymentsRecords', WHERE WHAT IT READS IS OF BULK AT MOST 1048576: true; the input reads as it did. -/
def paymentsRecordsUptoRow : OpenClaim := { program := "ytbkfdpdcnjecbaa", sum := "4cbc66c35fe518163395b2554b9c8454c2fac993ce11ab966e27f35f27ea4e8a", func := "landaid/landaidlaw40.PaymentsRecords", spec := "paymentsRecords", unfollowed := true, recurses := true, apart := false, narrowed := true }
def PaymentsRecordsUptoSaid : Prop := paymentsRecordsUptoRow.holds Try.pinned (OpenSpec.upto paymentsRecordsSpec)

/-- 'landaidlaw40.PaymentsAnswers', WHERE WHAT IT READS IS OF BULK AT MOST 1048576: true; the input reads as it did. -/
def paymentsAnswersUptoRow : OpenClaim := { program := "ytbkfdpdcnjecbaa", sum := "4cbc66c35fe518163395b2554b9c8454c2fac993ce11ab966e27f35f27ea4e8a", func := "landaid/landaidlaw40.PaymentsAnswers", spec := "paymentsAnswers", unfollowed := true, recurses := true, apart := false, narrowed := true }
def PaymentsAnswersUptoSaid : Prop := paymentsAnswersUptoRow.holds Try.pinned (OpenSpec.upto paymentsAnswersSpec)

end Rows
end Go.Proofs.Ytbkfdpdcnjecbaa
