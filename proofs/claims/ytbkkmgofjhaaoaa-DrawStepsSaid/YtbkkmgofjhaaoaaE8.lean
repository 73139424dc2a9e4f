/- Plain: a block that holds a draw, and what its parties know. -/
import Derived.Test.YtbkkmgofjhaaoaaE7
import Derived.Test.YtbkkmgofjhaaoaaE2
import Derived.Test.YtbkkmgofjhaaoaaDA
namespace Go.Proofs.Ytbkkmgofjhaaoaa
open Go.RowKit
set_option linter.unusedVariables false
set_option linter.unusedSimpArgs false

def Lens (d : Dr) (n : Nat) : Prop := d.se.length = n ∧ d.sd.length = n ∧ d.sx.length = n ∧ d.rv.length = n
theorem Lens.small {d : Dr} {n : Nat} (h : Lens d n) (hn : n ≤ 4) : d.small := by unfold Lens at h; unfold Dr.small; omega
theorem Lens.new (n : Nat) : Lens (newD n) n := by simp [Lens, newD]
theorem Lens.next {d : Dr} {n : Nat} (h : Lens d n) (s : Int) : Lens (nextD d s).1 n := by unfold nextD; split <;> exact h
theorem Lens.commit {d : Dr} {n : Nat} (h : Lens d n) (k s : Int) : Lens (commitD d k s).1 n := by
  unfold Lens at h ⊢
  unfold commitD
  split
  · split <;> simp [h]
  · exact h
theorem Lens.reveal {d : Dr} {n : Nat} (h : Lens d n) (k a b : Int) : Lens (revealD d k a b).1 n := by
  unfold Lens at h ⊢
  unfold revealD
  split
  · split
    · exact h
    · split <;> simp [h]
  · exact h
def lotsCells (q : DV) (d : Dr) (u v : Value) : Array Value := #[.int .i64 d.st, .slice q.a1 d.se.length q.c1, .slice q.a2 d.sd.length q.c2, .slice q.a3 d.sx.length q.c3, .slice q.a4 d.rv.length q.c4, u, v]
def lotsZero : Obj := .cells #[.int .i64 0, .slice none 0 0, .slice none 0 0, .slice none 0 0, .slice none 0 0, .slice none 0 0, .slice none 0 0] 32 (0, 0)
theorem lots_put {W : World} {X : Nat} {q : DV} {d : Dr} {u v u' v' : Value} (h : W.heap[X]? = some (.cells (lotsCells q d u v) 32 (0, 0))) :
    ((W.setCell ⟨X, 5, none⟩ u').setCell ⟨X, 6, none⟩ v').heap[X]? = some (.cells (lotsCells q d u' v') 32 (0, 0)) := by
  have h1 := heap_setCell_same W X 5 _ _ u' h
  have h2 := heap_setCell_same _ X 6 _ _ v' h1
  rw [h2]
  simp [lotsCells]
theorem Two.put {w K W : World} {g X : Nat} {q : DV} {d : Dr} {u v u0 v0 : Value} {l k r : List Int} {N : List (Nat × Obj)} (h : Two w K W g X (.cells (lotsCells q d u0 v0) 32 (0, 0)) u v l k r N) :
    Two w K ((W.setCell ⟨X, 5, none⟩ u).setCell ⟨X, 6, none⟩ v) g X (.cells (lotsCells q d u v) 32 (0, 0)) u v l k r [] :=
  Two.store h (lots_put (u' := u) (v' := v) h.blk) (only_setCell (only_setCell (World.grownBy.refl _ (some X)) (.inl rfl) _) (.inl rfl) _)
theorem lots_put5 {W : World} {X : Nat} {q q' : DV} {d d' : Dr} {u v : Value} (h : W.heap[X]? = some (.cells (lotsCells q d u v) 32 (0, 0))) :
    (((((W.setCell ⟨X, 0, none⟩ (.int .i64 d'.st)).setCell ⟨X, 1, none⟩ (.slice q'.a1 d'.se.length q'.c1)).setCell ⟨X, 2, none⟩ (.slice q'.a2 d'.sd.length q'.c2)).setCell ⟨X, 3, none⟩ (.slice q'.a3 d'.sx.length q'.c3)).setCell ⟨X, 4, none⟩ (.slice q'.a4 d'.rv.length q'.c4)).heap[X]? = some (.cells (lotsCells q' d' u v) 32 (0, 0)) := by
  have h1 := heap_setCell_same W X 0 _ _ (.int .i64 d'.st) h
  have h2 := heap_setCell_same _ X 1 _ _ (.slice q'.a1 d'.se.length q'.c1) h1
  have h3 := heap_setCell_same _ X 2 _ _ (.slice q'.a2 d'.sd.length q'.c2) h2
  have h4 := heap_setCell_same _ X 3 _ _ (.slice q'.a3 d'.sx.length q'.c3) h3
  have h5 := heap_setCell_same _ X 4 _ _ (.slice q'.a4 d'.rv.length q'.c4) h4
  rw [h5]
  simp [lotsCells]
/-- The cells of that block. -/
structure LotsC (W : World) (X : Nat) (q : DV) (d : Dr) (u v : Value) : Prop where
  c0 : W.cell? ⟨X, 0, none⟩ = some (.int .i64 d.st)
  c1 : W.cell? ⟨X, 1, none⟩ = some (.slice q.a1 d.se.length q.c1)
  c2 : W.cell? ⟨X, 2, none⟩ = some (.slice q.a2 d.sd.length q.c2)
  c3 : W.cell? ⟨X, 3, none⟩ = some (.slice q.a3 d.sx.length q.c3)
  c4 : W.cell? ⟨X, 4, none⟩ = some (.slice q.a4 d.rv.length q.c4)
  c5 : W.cell? ⟨X, 5, none⟩ = some u
  c6 : W.cell? ⟨X, 6, none⟩ = some v
  f : ∀ j, W.frozen? ⟨X, j, none⟩ = false
theorem LotsC.of {W : World} {X : Nat} {q : DV} {d : Dr} {u v : Value} {t : TypeId} (h : W.heap[X]? = some (.cells (lotsCells q d u v) t (0, 0))) : LotsC W X q d u v :=
  ⟨cell_of_row W X 0 _ _ _ h, cell_of_row W X 1 _ _ _ h, cell_of_row W X 2 _ _ _ h, cell_of_row W X 3 _ _ _ h, cell_of_row W X 4 _ _ _ h, cell_of_row W X 5 _ _ _ h, cell_of_row W X 6 _ _ _ h, fun j => frozen_of_row W X j _ _ h⟩

/-- A draw and what its parties know, in a block X; a result's block R. -/
structure LX (w W : World) (g R X n : Nat) (q : DV) (d : Dr) (u v : Value) (l k r : List Int) : Prop where
  blk : W.heap[X]? = some (.cells (lotsCells q d u v) 32 (0, 0))
  rb : W.heap[R]? = some lotsZero
  dr : OwnD W (X + 1) q d
  oA : W.ownsRow (X + 1) 27 1 u n (l.map (.int .u64))
  oB : W.ownsRow (X + 1) 27 1 v n (k.map (.int .u64))
  ln : Lens d n
  la : l.length = n
  lb : k.length = n
  tp : TapeAt W g r
  gr : w.grownBy W (some g)
  hg : g < w.heap.size
  hR : w.heap.size ≤ R
  hX : R < X
  lt : X < W.heap.size
section
variable {w W W' : World} {g R X n : Nat} {q q' : DV} {d d' : Dr} {u v : Value} {l k r r' : List Int}
theorem LX.below (h : LX w W g R X n q d u v l k r) (hb : Below W.heap.size W W') : LX w W' g R X n q d u v l k r := by
  have h1 := h.lt
  have h2 := h.hX
  have h3 := h.hR
  have h4 := h.hg
  exact ⟨(hb.block _ h1).trans h.blk, (hb.block _ (by omega)).trans h.rb, h.dr.below hb, ownsRow_below h.oA hb, ownsRow_below h.oB hb, h.ln, h.la, h.lb, h.tp.below hb (by omega), only_below h.gr hb h.gr.size, h4, h3, h2, Nat.lt_of_lt_of_le h1 hb.size⟩
theorem LX.tape (h : LX w W g R X n q d u v l k r) (hn : W.grownBy W' (some g)) (ht : TapeAt W' g r') : LX w W' g R X n q d u v l k r' := by
  have h1 := h.lt
  have h2 := h.hX
  have h3 := h.hR
  have h4 := h.hg
  exact ⟨(hn.block _ h1 (fun e => by injection e with e; omega)).trans h.blk, (hn.block _ (by omega) (fun e => by injection e with e; omega)).trans h.rb, h.dr.old hn (by omega), ownsRow_only h.oA hn (by omega), ownsRow_only h.oB hn (by omega), h.ln, h.la, h.lb, ht, only_trans h.gr hn, h4, h3, h2, Nat.lt_of_lt_of_le h1 hn.size⟩
theorem LX.put (h : LX w W g R X n q d u v l k r) (hl : Lens d' n) (ho : (q' = q ∧ d' = d) ∨ OwnD W W'.heap.size q' d') (hs : W'.heap.size ≤ W.heap.size) (hX : X < W'.heap.size) :
    LX w (((((W.setCell ⟨X, 0, none⟩ (.int .i64 d'.st)).setCell ⟨X, 1, none⟩ (.slice q'.a1 d'.se.length q'.c1)).setCell ⟨X, 2, none⟩ (.slice q'.a2 d'.sd.length q'.c2)).setCell ⟨X, 3, none⟩ (.slice q'.a3 d'.sx.length q'.c3)).setCell ⟨X, 4, none⟩ (.slice q'.a4 d'.rv.length q'.c4)) g R X n q' d' u v l k r := by
  have h1 := h.lt
  have h2 := h.hX
  have h3 := h.hR
  have h4 := h.hg
  have hn : W.grownBy (((((W.setCell ⟨X, 0, none⟩ (.int .i64 d'.st)).setCell ⟨X, 1, none⟩ (.slice q'.a1 d'.se.length q'.c1)).setCell ⟨X, 2, none⟩ (.slice q'.a2 d'.sd.length q'.c2)).setCell ⟨X, 3, none⟩ (.slice q'.a3 d'.sx.length q'.c3)).setCell ⟨X, 4, none⟩ (.slice q'.a4 d'.rv.length q'.c4)) (some X) := box5_only
  refine ⟨lots_put5 h.blk, (hn.block _ (by omega) (fun e => by injection e with e; omega)).trans h.rb, ?_, ownsRow_only h.oA hn (by omega), ownsRow_only h.oB hn (by omega), hl, h.la, h.lb, h.tp.grown hn (fun y hy => by injection hy with hy; omega), only_grown h.gr hn (fun y hy => by injection hy with hy; omega), h4, h3, h2, Nat.lt_of_lt_of_le h1 hn.size⟩
  rcases ho with ⟨rfl, rfl⟩ | ho
  · exact h.dr.old hn (by omega)
  · exact (ho.rebase (by omega)).old hn (by omega)
theorem LX.cells (h : LX w W g R X n q d u v l k r) : LotsC W X q d u v := .of h.blk
theorem LX.ca {b c m : Nat} (h : LX w W g R X n q d (.slice (some ⟨b, 0, none⟩) n c) v l k r) (hm : m < l.length) : W.cell? ⟨b, m, none⟩ = some (.int .u64 l[m]) := by
  have := World.ownsRow.cells (g := b) h.oA rfl m (.int .u64 l[m]) (by simp [hm])
  rwa [add_none, Nat.zero_add] at this
theorem LX.cb {b c m : Nat} (h : LX w W g R X n q d u (.slice (some ⟨b, 0, none⟩) n c) l k r) (hm : m < k.length) : W.cell? ⟨b, m, none⟩ = some (.int .u64 k[m]) := by
  have := World.ownsRow.cells (g := b) h.oB rfl m (.int .u64 k[m]) (by simp [hm])
  rwa [add_none, Nat.zero_add] at this
theorem LX.start {K : World} {N : List (Nat × Obj)} (h : Two w K W g X (.cells (lotsCells q d u v) 32 (0, 0)) u v l k r N) (hd : OwnD K (X + 1) q d) (hl : Lens d n) (ha : l.length = n) (hb : k.length = n) (hr : K.heap[R]? = some lotsZero) (hR : w.heap.size ≤ R) (hRX : R < X) : LX w W g R X n q d u v l k r := by
  have h1 := h.hK
  have h2 := h.hg
  have h3 := h.hX
  have h4 := h.sz
  exact ⟨h.blk, (h.kp R (by omega) (by omega) (by omega)).trans hr, h.own hd (Nat.lt_succ_self _), by rw [← ha]; exact own_rebase h.o1 (by omega), by rw [← hb]; exact own_rebase h.o2 (by omega), hl, ha, hb, h.tp, h.gr, h2, hR, hRX, by omega⟩
end
theorem box7 {w : World} {g : Nat} {t : TypeId} {a b c d e f h x y z u v s p : Value} (hz : w.heap[g]? = some (.cells #[a, b, c, d, e, f, h] t (0, 0))) : (((((((w.setCell ⟨g, 0, none⟩ x).setCell ⟨g, 1, none⟩ y).setCell ⟨g, 2, none⟩ z).setCell ⟨g, 3, none⟩ u).setCell ⟨g, 4, none⟩ v).setCell ⟨g, 5, none⟩ s).setCell ⟨g, 6, none⟩ p).heap[g]? = some (.cells #[x, y, z, u, v, s, p] t (0, 0)) := by
  have h1 := heap_setCell_same w g 0 _ _ x hz
  have h2 := heap_setCell_same _ g 1 _ _ y h1
  have h3 := heap_setCell_same _ g 2 _ _ z h2
  have h4 := heap_setCell_same _ g 3 _ _ u h3
  have h5 := heap_setCell_same _ g 4 _ _ v h4
  have h6 := heap_setCell_same _ g 5 _ _ s h5
  have h7 := heap_setCell_same _ g 6 _ _ p h6
  rw [h7]
  simp
theorem box7_only {w : World} {g : Nat} {x y z u v s p : Value} : w.grownBy (((((((w.setCell ⟨g, 0, none⟩ x).setCell ⟨g, 1, none⟩ y).setCell ⟨g, 2, none⟩ z).setCell ⟨g, 3, none⟩ u).setCell ⟨g, 4, none⟩ v).setCell ⟨g, 5, none⟩ s).setCell ⟨g, 6, none⟩ p) (some g) :=
  only_setCell (only_setCell (only_setCell (only_setCell (only_setCell (only_setCell (only_setCell (World.grownBy.refl _ (some g)) (.inl rfl) _) (.inl rfl) _) (.inl rfl) _) (.inl rfl) _) (.inl rfl) _) (.inl rfl) _) (.inl rfl) _

/-- What second.Draw leaves. -/
def LotsPost (w : World) (g : Nat) (e : Ending) (w' : World) : Prop :=
  ∃ (q : DV) (d : Dr) (A : Option Addr) (ac : Nat) (B : Option Addr) (bc n : Nat) (l k r : List Int),
    e = .returned (.agg #[.int .i64 d.st, .slice q.a1 d.se.length q.c1, .slice q.a2 d.sd.length q.c2, .slice q.a3 d.sx.length q.c3, .slice q.a4 d.rv.length q.c4, .slice A n ac, .slice B n bc]) ∧
    OwnD w' w.heap.size q d ∧ Lens d n ∧ 1 ≤ n ∧ n ≤ 4 ∧ w'.ownsRow w.heap.size 27 1 (.slice A n ac) n (l.map (.int .u64)) ∧ w'.ownsRow w.heap.size 27 1 (.slice B n bc) n (k.map (.int .u64)) ∧ l.length = n ∧ k.length = n ∧ TapeAt w' g r ∧ w.grownBy w' (some g)
section
variable {w W : World} {g X n : Nat} {q : DV} {d : Dr} {u v : Value} {l k r : List Int}
/-- The result's block, filled. -/
def fill7 (W : World) (R : Nat) (q : DV) (d : Dr) (u v : Value) : World := (((((((W.setCell ⟨R, 0, none⟩ (.int .i64 d.st)).setCell ⟨R, 1, none⟩ (.slice q.a1 d.se.length q.c1)).setCell ⟨R, 2, none⟩ (.slice q.a2 d.sd.length q.c2)).setCell ⟨R, 3, none⟩ (.slice q.a3 d.sx.length q.c3)).setCell ⟨R, 4, none⟩ (.slice q.a4 d.rv.length q.c4)).setCell ⟨R, 5, none⟩ u).setCell ⟨R, 6, none⟩ v)
theorem LX.res (h : LX w W g w.heap.size X n q d u v l k r) : LotsC (fill7 W w.heap.size q d u v) w.heap.size q d u v := .of (t := 32) (box7 h.rb)
theorem LX.zero (h : LX w W g w.heap.size X n q d u v l k r) : LotsC W w.heap.size ⟨none, 0, none, 0, none, 0, none, 0⟩ zeroD (.slice none 0 0) (.slice none 0 0) := .of (t := 32) h.rb
theorem LX.fin {A B : Option Addr} {ac bc : Nat} (h : LX w W g w.heap.size X n q d (.slice A n ac) (.slice B n bc) l k r) (h1 : 1 ≤ n) (h4 : n ≤ 4) :
    LotsPost w g (.returned (.agg #[.int .i64 d.st, .slice q.a1 d.se.length q.c1, .slice q.a2 d.sd.length q.c2, .slice q.a3 d.sx.length q.c3, .slice q.a4 d.rv.length q.c4, .slice A n ac, .slice B n bc])) (fill7 W w.heap.size q d (.slice A n ac) (.slice B n bc)) := by
  have hX := h.hX
  have hg := h.hg
  exact ⟨q, d, A, ac, B, bc, n, l, k, r, rfl, (h.dr.old box7_only (by omega)).rebase (by omega), h.ln, h1, h4, own_rebase (ownsRow_only h.oA box7_only (by omega)) (by omega), own_rebase (ownsRow_only h.oB box7_only (by omega)) (by omega), h.la, h.lb,
    h.tp.grown box7_only (fun y hy => by injection hy with hy; omega), only_grown h.gr box7_only (fun y hy => by injection hy with hy; omega)⟩
end
theorem run_field (a b c d e f h : Value) (W : World) : (Instr.field 32 (.agg #[a, b, c, d, e, f, h]) 0).run Try.prog W = .ok (.agg #[a, b, c, d, e]) W := by
  simp [Instr.field, run_underlying Try.underlying32, asAgg, part]
end Go.Proofs.Ytbkkmgofjhaaoaa
