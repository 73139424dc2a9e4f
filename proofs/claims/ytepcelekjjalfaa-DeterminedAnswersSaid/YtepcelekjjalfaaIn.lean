/- Contracts of small functions that only compute with numbers. -/
import Derived.Test.YtepcelekjjalfaaRows
import Derived.WalkKit
import Derived.WalkSpells
import Derived.WalkLawsBesides
import Derived.BigGuardPart
import Derived.Lib.Hide
namespace Go.Proofs.Ytepcelekjjalfaa
open Go.RowKit

/-- Whether a number lies between two. -/
def inB (n lo hi : Int) : Bool := decide (lo ≤ n) && decide (n ≤ hi)
theorem inB_eq (n lo hi : Int) : inB n lo hi = (decide (lo ≤ n) && decide (n ≤ hi)) := rfl

set_option maxHeartbeats 400000 in
theorem in_any (n lo hi : Int) (w : World) :
    Calls Try.prog 25 #[.int .i64 n, .int .i64 lo, .int .i64 hi] w fun e w' => e = .returned (.bool (inB n lo hi)) ∧ w = w' := by
  unfold inB
  by_cases h1 : lo ≤ n <;> by_cases h2 : n ≤ hi
  all_goals
    go_enter Try.func25, Try.ntmps25
    go_wp2
    go_ret
    exact ⟨by simp [h1, h2], rfl⟩
end Go.Proofs.Ytepcelekjjalfaa
