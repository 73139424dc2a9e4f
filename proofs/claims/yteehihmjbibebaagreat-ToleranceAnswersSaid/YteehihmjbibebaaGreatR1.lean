/- Contracts: proper, Of$1, Valid$1, Limited, Same, Size (regions). -/
import Derived.Test.YteehihmjbibebaaGreatS3
namespace Go.Proofs.YteehihmjbibebaaGreat
open Go.RowKit
set_option linter.unusedVariables false
set_option linter.unusedSimpArgs false

set_option maxHeartbeats 400000 in
theorem properP_any (q : R4) (w : World) :
    Calls Tryz.prog 45 #[.agg #[.int .i64 q.l, .int .i64 q.b, .int .i64 q.r, .int .i64 q.t]] w fun e w' => e = .returned (.bool q.ok) ∧ Below w.heap.size w w' := by
  go_enter Tryz.func45, Tryz.ntmps45
  go_wp2
  all_goals
    go_ret
    exact ⟨ret_bool (by simp [R4.ok]; omega), (by repeat' (first | with_reducible exact Below.refl _ _ | with_reducible refine below_drewN ?_ _ | with_reducible refine Below.drew ?_ | with_reducible refine Below.alloc ?_ ?_ _ | with_reducible refine Below.setCell ?_ ?_ _ | with_reducible refine Below.trans ?_ (Below.mono (by with_reducible assumption) ?_) | (simp; done) | (simp; omega) | omega))⟩

end Go.Proofs.YteehihmjbibebaaGreat
