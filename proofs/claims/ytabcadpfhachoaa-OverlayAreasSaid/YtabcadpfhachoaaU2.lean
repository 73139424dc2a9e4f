/- Contract: merge (regions). -/
import Derived.Test.YtabcadpfhachoaaU1
import Derived.Test.YtabcadpfhachoaaR6
import Derived.Test.YtabcadpfhachoaaGt
namespace Go.Proofs.Ytabcadpfhachoaa
open Go.RowKit
set_option linter.unusedVariables false
set_option linter.unusedSimpArgs false

theorem sEdges_take_succ (l : List (Sg Unit)) (k : Nat) (h : k < l.length) : sEdges (l.take (k + 1)) = sEdges (l.take k) ++ [l[k].1, l[k].2.1] := by
  rw [List.take_succ_eq_append_getElem h]; unfold sEdges; rw [List.flatMap_append]; rfl
theorem sEdges_len (l : List (Sg Unit)) : (sEdges l).length = 2 * l.length := by
  induction l with
  | nil => rfl
  | cons q t ih => simp [sEdges] at ih ⊢; omega

end Go.Proofs.Ytabcadpfhachoaa
