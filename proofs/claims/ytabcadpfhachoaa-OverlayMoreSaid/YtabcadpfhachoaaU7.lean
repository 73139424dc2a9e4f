/- Contracts: Within, overlap, Meets (regions). -/
import Derived.Test.YtabcadpfhachoaaU5
namespace Go.Proofs.Ytabcadpfhachoaa
open Go.RowKit Go.Shelf Go.Lib Go.Sort
set_option linter.unusedVariables false
set_option linter.unusedSimpArgs false

theorem RBs.two (w : World) (A B : Option Addr) (n c m d : Nat) (a b : List R4) (hA : SlR w A n c a) (hB : SlR w B m d b) : RBs ((w.alloc (.cells #[.slice A n c] 34)).alloc (.cells #[.slice B m d] 34)) [⟨w.heap.size + 1, B, m, d, b⟩, ⟨w.heap.size, A, n, c, a⟩] := by
  have h0 : RBs w [] := fun x hx => by cases hx
  have h1 := h0.push A n c a hA
  have h2 := h1.push B m d b (hB.below (by repeat' (first | with_reducible exact Below.refl _ _ | with_reducible refine below_drewN ?_ _ | with_reducible refine Below.drew ?_ | with_reducible refine Below.alloc ?_ ?_ _ | with_reducible refine Below.setCell ?_ ?_ _ | with_reducible refine Below.trans ?_ (Below.mono (by with_reducible assumption) ?_) | (simp; done) | (simp; omega) | omega)))
  simpa using h2

theorem over_def (p q : R4) : overP p q = (decide (p.l < q.r) && decide (q.l < p.r) && decide (p.b < q.t) && decide (q.b < p.t)) := rfl
end Go.Proofs.Ytabcadpfhachoaa
