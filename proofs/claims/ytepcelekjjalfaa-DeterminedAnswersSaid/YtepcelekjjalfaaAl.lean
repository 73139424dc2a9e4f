/- The walk of DeterminedAnswers, for lists of any length. -/
import Derived.Test.YtepcelekjjalfaaAn
namespace Go.Proofs.Ytepcelekjjalfaa
open Go.RowKit
set_option linter.unusedVariables false

set_option maxRecDepth 100000 in
set_option maxHeartbeats 1000000 in
theorem answers_any (A : Option Addr) (n c : Nat) (zs : List Int) (fr : Fct) (A2 : Option Addr) (n2 c2 : Nat) (L2 : List Fct) (width oby : Int) (w : World) (hn : zs.length = n) (hc : n ≤ c) (hm : c ≤ maxLen) (hw : ∀ z ∈ zs, (Lit.int .i64 z).wf = true) (hA : Lies w A n (zs.map (.int .i64)))
    (hn2 : L2.length = n2) (hm2 : n2 ≤ maxLen) (hA2 : Lies w A2 n2 (factCells L2)) (hwd : -9223372036854775808 ≤ width ∧ width ≤ 9223372036854775807) :
    Calls Try.prog 3 #[.slice A n c, .agg #[.int .i64 fr.d, .int .i64 fr.u, .int .i64 fr.s, .int .i64 fr.k, .int .i64 fr.a, .int .i64 fr.b], .slice A2 n2 c2, .int .i64 width, .int .i64 oby] w fun e w' => e = .returned (.bool true) ∧ Below w.heap.size w w' := by
  by_cases h : n2 ≤ 25
  · exact answers_main A n c zs fr A2 n2 c2 L2 width oby w hn hc hm hw hA hn2 h hA2 hwd
  · clear hn hc hm hw hA hn2 hA2
    unfold maxLen at hm2
    go_enter Try.func3, Try.ntmps3
    go_wp2_with (go_at_call 8; refine (awake28_any _).mono ?_; rintro e w9 ⟨rfl, hb9⟩)
    go_ret
    exact ⟨rfl, (by repeat' (first | with_reducible exact Below.refl _ _ | with_reducible assumption | with_reducible refine below_drewN ?_ _ | with_reducible refine Below.drew ?_ | with_reducible refine Below.alloc ?_ ?_ _ | with_reducible refine Below.setCell ?_ ?_ _ | with_reducible refine Below.trans ?_ (Below.mono (by with_reducible assumption) ?_) | with_reducible refine below_only ?_ (by with_reducible assumption) ?_ ?_ | (simp; done) | (simp; omega) | omega))⟩
end Go.Proofs.Ytepcelekjjalfaa
