/- Contracts: the tape: a number in a range, one in so many cases. -/
import Derived.Test.YtpcfhcdbibklcaaGreatT0
namespace Go.Proofs.YtpcfhcdbibklcaaGreat
open Go.RowKit
set_option linter.unusedVariables false

/-- As NextPost, of a bool. -/
def OnePost (w : World) (g : Nat) (r : List Int) (x : Bool) (e : Ending) (w' : World) : Prop :=
  e = .returned (.bool x) ∧ TapeAt w' g r.tail ∧ w.grownBy w' (some g)
/-- One in so many cases. -/
def oneB (r : List Int) (n : Int) : Bool := nx r n == n - 1

set_option maxHeartbeats 400000 in
theorem one_any (g : Nat) (r : List Int) (n : Int) (w : World) (ht : TapeAt w g r) (h1 : 1 ≤ n) (h3 : n ≤ 1000000000000) :
    Calls Tryz.prog 45 #[.pointer (some ⟨g, 0, none⟩), .int .i64 n] w (OnePost w g r (oneB r n)) := by
  have Hn := Lib.hid (next_any g r n w ht (by omega))
  have Ho := Lib.hid (show oneB r n = (nx r n == n - 1) from rfl)
  generalize nx r n = x at *
  generalize oneB r n = y at *
  go_enter Tryz.func45, Tryz.ntmps45
  go_wp2_with (go_at_call 27; refine Hn.out.mono ?_; rintro e w1 ⟨rfl, ht1, hg1⟩)
  go_ret
  exact ⟨by rw [Ho.out]; rfl, ht1, hg1⟩

end Go.Proofs.YtpcfhcdbibklcaaGreat
