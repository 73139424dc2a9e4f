/- A draw in a block T, and two results in blocks P and Q. -/
import Derived.Test.YtbkkmgofjhaaoaaEw
import Derived.Test.YtbkkmgofjhaaoaaEn
namespace Go.Proofs.Ytbkkmgofjhaaoaa
open Go.RowKit
set_option linter.unusedVariables false
set_option linter.unusedSimpArgs false

theorem small_next {d : Dr} (h : d.small) (s : Int) : (nextD d s).1.small := by unfold nextD; split <;> exact h
theorem small_commit {d : Dr} (h : d.small) (k s : Int) : (commitD d k s).1.small := by
  unfold Dr.small at h ⊢
  unfold commitD
  split
  · split <;> simp [h]
  · exact h
theorem small_reveal {d : Dr} (h : d.small) (k a b : Int) : (revealD d k a b).1.small := by
  unfold Dr.small at h ⊢
  unfold revealD
  split
  · split
    · exact h
    · split <;> simp [h]
  · exact h
theorem small_new (x : Int) : (newE x).1.small := by
  unfold newE Dr.small
  split
  · simp [zeroD]
  · simp [newD]; omega
structure TB (wT W : World) (T P Q : Nat) (q : DV) (d : Dr) (qp : DV) (dp : Dr) (qq : DV) (dq : Dr) : Prop where
  bT : W.heap[T]? = some (.cells #[.int .i64 d.st, .slice q.a1 d.se.length q.c1, .slice q.a2 d.sd.length q.c2, .slice q.a3 d.sx.length q.c3, .slice q.a4 d.rv.length q.c4] 26 (0, 0))
  bP : W.heap[P]? = some (.cells #[.int .i64 dp.st, .slice qp.a1 dp.se.length qp.c1, .slice qp.a2 dp.sd.length qp.c2, .slice qp.a3 dp.sx.length qp.c3, .slice qp.a4 dp.rv.length qp.c4] 26 (0, 0))
  bQ : W.heap[Q]? = some (.cells #[.int .i64 dq.st, .slice qq.a1 dq.se.length qq.c1, .slice qq.a2 dq.sd.length qq.c2, .slice qq.a3 dq.sx.length qq.c3, .slice qq.a4 dq.rv.length qq.c4] 26 (0, 0))
  aT : DrAt wT q d
  bel : Below wT.heap.size wT W
  hT : T < wT.heap.size
  hP : wT.heap.size ≤ P
  PQ : P < Q
  QW : Q < W.heap.size
section
variable {wT W W' : World} {T P Q : Nat} {q qp qq q' : DV} {d dp dq d' : Dr}
theorem TB.at (h : TB wT W T P Q q d qp dp qq dq) : DrAt W q d := h.aT.below h.bel
theorem TB.below (h : TB wT W T P Q q d qp dp qq dq) (hb : Below W.heap.size W W') : TB wT W' T P Q q d qp dp qq dq := by
  have h1 := h.QW
  have h2 := h.PQ
  have h3 := h.hP
  have h4 := h.hT
  exact ⟨(hb.block _ (by omega)).trans h.bT, (hb.block _ (by omega)).trans h.bP, (hb.block _ h1).trans h.bQ, h.aT, h.bel.trans (hb.mono h.bel.size), h4, h3, h2, Nat.lt_of_lt_of_le h1 hb.size⟩
theorem TB.putP (h : TB wT W T P Q q d qp dp qq dq) (q' : DV) (d' : Dr) : TB wT (((((W.setCell ⟨P, 0, none⟩ (.int .i64 d'.st)).setCell ⟨P, 1, none⟩ (.slice q'.a1 d'.se.length q'.c1)).setCell ⟨P, 2, none⟩ (.slice q'.a2 d'.sd.length q'.c2)).setCell ⟨P, 3, none⟩ (.slice q'.a3 d'.sx.length q'.c3)).setCell ⟨P, 4, none⟩ (.slice q'.a4 d'.rv.length q'.c4)) T P Q q d q' d' qq dq := by
  have h1 := h.QW
  have h2 := h.PQ
  have h3 := h.hP
  have h4 := h.hT
  exact ⟨(World.grownBy.block box5_only _ (by omega) (fun e => by injection e with e; omega)).trans h.bT, box5 h.bP, (World.grownBy.block box5_only _ h1 (fun e => by injection e with e; omega)).trans h.bQ, h.aT, box5_below h.bel h3, h4, h3, h2, Nat.lt_of_lt_of_le h1 (World.grownBy.size box5_only)⟩
theorem TB.putQ (h : TB wT W T P Q q d qp dp qq dq) (q' : DV) (d' : Dr) : TB wT (((((W.setCell ⟨Q, 0, none⟩ (.int .i64 d'.st)).setCell ⟨Q, 1, none⟩ (.slice q'.a1 d'.se.length q'.c1)).setCell ⟨Q, 2, none⟩ (.slice q'.a2 d'.sd.length q'.c2)).setCell ⟨Q, 3, none⟩ (.slice q'.a3 d'.sx.length q'.c3)).setCell ⟨Q, 4, none⟩ (.slice q'.a4 d'.rv.length q'.c4)) T P Q q d qp dp q' d' := by
  have h1 := h.QW
  have h2 := h.PQ
  have h3 := h.hP
  have h4 := h.hT
  exact ⟨(World.grownBy.block box5_only _ (by omega) (fun e => by injection e with e; omega)).trans h.bT, (World.grownBy.block box5_only _ (by omega) (fun e => by injection e with e; omega)).trans h.bP, box5 h.bQ, h.aT, box5_below h.bel (by omega), h4, h3, h2, Nat.lt_of_lt_of_le h1 (World.grownBy.size box5_only)⟩
end
theorem same_true (p q : DV) (a : Dr) (w : World) (ha : DrAt w p a) (hb : DrAt w q a) (hl : a.small) : Calls Try.prog 19 #[.agg #[.int .i64 a.st, .slice p.a1 a.se.length p.c1, .slice p.a2 a.sd.length p.c2, .slice p.a3 a.sx.length p.c3, .slice p.a4 a.rv.length p.c4], .agg #[.int .i64 a.st, .slice q.a1 a.se.length q.c1, .slice q.a2 a.sd.length q.c2, .slice q.a3 a.sx.length q.c3, .slice q.a4 a.rv.length q.c4]] w fun e w' => e = .returned (.bool true) ∧ Below w.heap.size w w' := by
  have := same_any p q a a w ha hb hl
  rwa [decide_eq_true rfl] at this
/-- A draw at place j of four. -/
def At4 (W : World) (B : Nat) (j : Nat) : Prop := ∃ (q : DV) (d : Dr), W.cell? ⟨B, j * 5, none⟩ = some (.int .i64 d.st) ∧ W.cell? ⟨B, j * 5 + 1, none⟩ = some (.slice q.a1 d.se.length q.c1) ∧ W.cell? ⟨B, j * 5 + 2, none⟩ = some (.slice q.a2 d.sd.length q.c2) ∧ W.cell? ⟨B, j * 5 + 3, none⟩ = some (.slice q.a3 d.sx.length q.c3) ∧ W.cell? ⟨B, j * 5 + 4, none⟩ = some (.slice q.a4 d.rv.length q.c4) ∧ DrAt W q d ∧ d.small
/-- A block that holds a draw. -/
structure BD (W : World) (A : Nat) (q : DV) (d : Dr) : Prop where
  b : W.heap[A]? = some (.cells #[.int .i64 d.st, .slice q.a1 d.se.length q.c1, .slice q.a2 d.sd.length q.c2, .slice q.a3 d.sx.length q.c3, .slice q.a4 d.rv.length q.c4] 26 (0, 0))
  a : DrAt W q d
theorem BD.below {W W' : World} {A : Nat} {q : DV} {d : Dr} (h : BD W A q d) (hb : Below W.heap.size W W') : BD W' A q d := by
  have hlt : A < W.heap.size := by
    rcases Nat.lt_or_ge A W.heap.size with h' | h'
    · exact h'
    · have := h.b; rw [Array.getElem?_eq_none h'] at this; cases this
  exact ⟨(hb.block _ hlt).trans h.b, h.a.below hb⟩
theorem BD.new {W : World} {q : DV} {d : Dr} (h : DrAt W q d) : BD (W.alloc (.cells #[.int .i64 d.st, .slice q.a1 d.se.length q.c1, .slice q.a2 d.sd.length q.c2, .slice q.a3 d.sx.length q.c3, .slice q.a4 d.rv.length q.c4] 26)) W.heap.size q d := ⟨heap_alloc_new W _, h.below ((Below.refl _ _).alloc (Nat.le_refl _) _)⟩
end Go.Proofs.Ytbkkmgofjhaaoaa
