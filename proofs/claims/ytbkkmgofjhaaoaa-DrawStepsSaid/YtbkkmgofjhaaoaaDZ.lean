/- Contract: the law's sanity check (draw): under way. -/
import Derived.Test.YtbkkmgofjhaaoaaDY
namespace Go.Proofs.Ytbkkmgofjhaaoaa
open Go.RowKit
set_option linter.unusedVariables false
set_option linter.unusedSimpArgs false

/-- A block that holds a draw. -/
structure Bx (w0 W : World) (B : Nat) (q : DV) (d : Dr) : Prop where
  blk : W.heap[B]? = some (.cells #[.int .i64 d.st, .slice q.a1 d.se.length q.c1, .slice q.a2 d.sd.length q.c2, .slice q.a3 d.sx.length q.c3, .slice q.a4 d.rv.length q.c4] 26 (0, 0))
  dr : DrAt W q d
  bel : Below w0.heap.size w0 W
  hB : w0.heap.size ≤ B
  lt : B < W.heap.size
theorem Bx.start {w0 W : World} {q : DV} {d : Dr} (h : OwnD W w0.heap.size q d) (hb : Below w0.heap.size w0 W) : Bx w0 (W.alloc (.cells #[.int .i64 d.st, .slice q.a1 d.se.length q.c1, .slice q.a2 d.sd.length q.c2, .slice q.a3 d.sx.length q.c3, .slice q.a4 d.rv.length q.c4] 26)) W.heap.size q d :=
  ⟨heap_alloc_new W _, h.at.below ((Below.refl _ _).alloc (Nat.le_refl _) _), hb.alloc hb.size _, hb.size, by simp⟩
theorem Bx.step {w0 W W1 : World} {B : Nat} {q q1 : DV} {d d1 : Dr} (h : Bx w0 W B q d) (ho : OwnD W1 W.heap.size q1 d1) (hb : Below W.heap.size W W1) :
    Bx w0 (((((W1.setCell ⟨B, 0, none⟩ (.int .i64 d1.st)).setCell ⟨B, 1, none⟩ (.slice q1.a1 d1.se.length q1.c1)).setCell ⟨B, 2, none⟩ (.slice q1.a2 d1.sd.length q1.c2)).setCell ⟨B, 3, none⟩ (.slice q1.a3 d1.sx.length q1.c3)).setCell ⟨B, 4, none⟩ (.slice q1.a4 d1.rv.length q1.c4)) B q1 d1 := by
  have hlt := h.lt
  have hsz := h.bel.size
  refine ⟨box5 ((hb.block _ hlt).trans h.blk), (OwnD.old ho box5_only hlt).at, box5_below (h.bel.trans (hb.mono hsz)) h.hB, h.hB, ?_⟩
  have := hb.size
  simp [World.setCell]
  omega
/-- The cells of that block, behind a call. -/
theorem Bx.cells {w0 W W1 : World} {B : Nat} {q : DV} {d : Dr} (h : Bx w0 W B q d) (hb : Below W.heap.size W W1) :
    (W1.cell? ⟨B, 0, none⟩ = some (.int .i64 d.st) ∧ W1.cell? ⟨B, 1, none⟩ = some (.slice q.a1 d.se.length q.c1) ∧ W1.cell? ⟨B, 2, none⟩ = some (.slice q.a2 d.sd.length q.c2) ∧ W1.cell? ⟨B, 3, none⟩ = some (.slice q.a3 d.sx.length q.c3) ∧ W1.cell? ⟨B, 4, none⟩ = some (.slice q.a4 d.rv.length q.c4)) ∧
    (W1.frozen? ⟨B, 0, none⟩ = false ∧ W1.frozen? ⟨B, 1, none⟩ = false ∧ W1.frozen? ⟨B, 2, none⟩ = false ∧ W1.frozen? ⟨B, 3, none⟩ = false ∧ W1.frozen? ⟨B, 4, none⟩ = false) := by
  have hr := (hb.block _ h.lt).trans h.blk
  exact ⟨⟨cell_of_row _ _ 0 _ _ _ hr, cell_of_row _ _ 1 _ _ _ hr, cell_of_row _ _ 2 _ _ _ hr, cell_of_row _ _ 3 _ _ _ hr, cell_of_row _ _ 4 _ _ _ hr⟩, frozen_of_row _ _ 0 _ _ hr, frozen_of_row _ _ 1 _ _ hr, frozen_of_row _ _ 2 _ _ hr, frozen_of_row _ _ 3 _ _ hr, frozen_of_row _ _ 4 _ _ hr⟩
end Go.Proofs.Ytbkkmgofjhaaoaa
