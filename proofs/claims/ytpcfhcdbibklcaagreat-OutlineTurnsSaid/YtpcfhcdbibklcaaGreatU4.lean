/- Contracts: combine, Union, Both, Without (regions). -/
import Derived.Test.YtpcfhcdbibklcaaGreatU3
namespace Go.Proofs.YtpcfhcdbibklcaaGreat
open Go.RowKit
set_option linter.unusedVariables false
set_option linter.unusedSimpArgs false

/-- Two boxes of regions, and one for a result. -/
structure Bx3 (w W : World) (A : Option Addr) (n c : Nat) (B : Option Addr) (m d : Nat) : Prop where
  low : Below w.heap.size w W
  size : w.heap.size + 1 + 1 < W.heap.size
  b0 : W.heap[w.heap.size]? = some (.cells #[.slice A n c] 25 (0, 0))
  b1 : W.heap[w.heap.size + 1]? = some (.cells #[.slice B m d] 25 (0, 0))
  b2 : W.heap[w.heap.size + 1 + 1]? = some (.cells #[.slice none 0 0] 25 (0, 0))
theorem Bx3.make (w : World) (A : Option Addr) (n c : Nat) (B : Option Addr) (m d : Nat) : Bx3 w (((w.alloc (.cells #[.slice A n c] 25)).alloc (.cells #[.slice B m d] 25)).alloc (.cells #[.slice none 0 0] 25)) A n c B m d := by
  refine ⟨(by repeat' (first | with_reducible exact Below.refl _ _ | with_reducible refine below_drewN ?_ _ | with_reducible refine Below.drew ?_ | with_reducible refine Below.alloc ?_ ?_ _ | with_reducible refine Below.setCell ?_ ?_ _ | with_reducible refine Below.trans ?_ (Below.mono (by with_reducible assumption) ?_) | (simp; done) | (simp; omega) | omega)), by simp, (Below.heap_alloc _ _ _ (by simp; omega)).trans ((Below.heap_alloc _ _ _ (by simp)).trans (heap_alloc_new w _)), (Below.heap_alloc _ _ _ (by simp)).trans (heap_alloc2_new w _ _), ?_⟩
  have h3 := heap_alloc_new ((w.alloc (.cells #[.slice A n c] 25)).alloc (.cells #[.slice B m d] 25)) (.cells #[.slice none 0 0] 25)
  simpa using h3
theorem Bx3.below {w W W' : World} {A : Option Addr} {n c : Nat} {B : Option Addr} {m d : Nat} (h : Bx3 w W A n c B m d) (hb : Below W.heap.size W W') : Bx3 w W' A n c B m d :=
  have hs := h.size
  ⟨h.low.trans (hb.mono h.low.size), Nat.lt_of_lt_of_le h.size hb.size, (hb.block _ (by omega)).trans h.b0, (hb.block _ (by omega)).trans h.b1, (hb.block _ (by omega)).trans h.b2⟩
section
variable {w W : World} {A : Option Addr} {n c : Nat} {B : Option Addr} {m d : Nat} (h : Bx3 w W A n c B m d)
include h
theorem Bx3.c0 : W.cell? ⟨w.heap.size, 0, none⟩ = some (.slice A n c) := cell_of_row _ _ 0 _ _ _ h.b0
theorem Bx3.c1 : W.cell? ⟨w.heap.size + 1, 0, none⟩ = some (.slice B m d) := cell_of_row _ _ 0 _ _ _ h.b1
theorem Bx3.c2 : W.cell? ⟨w.heap.size + 1 + 1, 0, none⟩ = some (.slice none 0 0) := cell_of_row _ _ 0 _ _ _ h.b2
theorem Bx3.f2 : W.frozen? ⟨w.heap.size + 1 + 1, 0, none⟩ = false := frozen_of_row _ _ 0 _ _ h.b2
theorem Bx3.put (v : Value) : (W.setCell ⟨w.heap.size + 1 + 1, 0, none⟩ v).cell? ⟨w.heap.size + 1 + 1, 0, none⟩ = some v := by
  rw [cell_of_row _ (w.heap.size + 1 + 1) 0 _ _ _ (heap_setCell_same W (w.heap.size + 1 + 1) 0 _ _ v h.b2)]
  rfl
end

end Go.Proofs.YtpcfhcdbibklcaaGreat
