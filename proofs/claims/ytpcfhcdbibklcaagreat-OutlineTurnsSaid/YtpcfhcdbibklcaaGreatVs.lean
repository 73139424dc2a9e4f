/- Contract of the reference (layer 4): Same. -/
import Derived.Test.YtpcfhcdbibklcaaGreatF3
namespace Go.Proofs.YtpcfhcdbibklcaaGreat
open Go.RowKit
set_option linter.unusedVariables false
set_option linter.unusedSimpArgs false

set_option maxHeartbeats 1000000 in
theorem sameRef_any (A B : Option Addr) (n c m d : Nat) (l k : List R4) (w : World) (hA : SlR w A n c l) (hB : SlR w B m d k) :
    Calls Tryz.prog 20 #[.agg #[.slice A n c], .agg #[.slice B m d]] w fun e w' => e = .returned (.bool (decide (l = k))) ∧ Below w.heap.size w w' := by
  have HA := Lib.hid hA
  have HB := Lib.hid hB
  clear hA hB
  generalize hx : decide (l = k) = x
  have Hx := Lib.hid hx
  clear hx
  go_enter Tryz.func20, Tryz.ntmps20
  go_wp2_with (first | (go_at_call 60; refine (rectsR_any A B n c m d l k _ (HA.out.below (by repeat' (first | with_reducible exact Below.refl _ _ | with_reducible refine below_drewN ?_ _ | with_reducible refine Below.drew ?_ | with_reducible refine Below.alloc ?_ ?_ _ | with_reducible refine Below.setCell ?_ ?_ _ | with_reducible refine Below.trans ?_ (Below.mono (by with_reducible assumption) ?_) | (simp; done) | (simp; omega) | omega))) (HB.out.below (by repeat' (first | with_reducible exact Below.refl _ _ | with_reducible refine below_drewN ?_ _ | with_reducible refine Below.drew ?_ | with_reducible refine Below.alloc ?_ ?_ _ | with_reducible refine Below.setCell ?_ ?_ _ | with_reducible refine Below.trans ?_ (Below.mono (by with_reducible assumption) ?_) | (simp; done) | (simp; omega) | omega)))).mono ?_; rintro e w1 ⟨rfl, hb1⟩; rw [Hx.out]) | fail)
  go_ret
  exact ⟨rfl, (by repeat' (first | with_reducible exact Below.refl _ _ | with_reducible assumption | with_reducible refine below_drewN ?_ _ | with_reducible refine Below.drew ?_ | with_reducible refine Below.alloc ?_ ?_ _ | with_reducible refine Below.setCell ?_ ?_ _ | with_reducible refine Below.trans ?_ (Below.mono (by with_reducible assumption) ?_) | with_reducible refine below_only ?_ (by with_reducible assumption) ?_ ?_ | (simp; done) | (simp; omega) | omega))⟩
end Go.Proofs.YtpcfhcdbibklcaaGreat
