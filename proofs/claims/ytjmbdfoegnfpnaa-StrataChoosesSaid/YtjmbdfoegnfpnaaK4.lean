/- A row that grows beside a tape and a block; right plans drawn by a tape (second.Plan). -/
import Derived.Test.YtjmbdfoegnfpnaaK2
import Derived.Test.YtjmbdfoegnfpnaaT
namespace Go.Proofs.Ytjmbdfoegnfpnaa
open Go.RowKit
set_option linter.unusedVariables false
set_option linter.unusedSimpArgs false

/-- A row of numbers younger than world K, a tape g and a block X; all else that is older than K is as in K. -/
structure Gro (w K W : World) (g X : Nat) (c : Obj) (v : Value) (l r : List Int) : Prop where
  o : W.ownsRow K.heap.size 3 1 v l.length (l.map (.int .i64))
  tp : TapeAt W g r
  gr : w.grownBy W (some g)
  blk : W.heap[X]? = some c
  kp : ∀ b, b < K.heap.size → b ≠ g → b ≠ X → W.heap[b]? = K.heap[b]?
  sz : K.heap.size ≤ W.heap.size
  hg : g < w.heap.size
  hX : w.heap.size ≤ X
  hK : X < K.heap.size
section
variable {w K W W' : World} {g X : Nat} {c : Obj} {v : Value} {l r : List Int}
theorem Gro.tape (h : Gro w K W g X c v l r) {r' : List Int} (hg : W.grownBy W' (some g)) (ht : TapeAt W' g r') : Gro w K W' g X c v l r' := by
  have h1 := h.hg
  have h2 := h.hX
  have h3 := h.hK
  have h4 := h.sz
  exact ⟨ownsRow_only h.o hg (by omega), ht, only_trans h.gr hg, (hg.block X (by omega) (fun e => by injection e; omega)).trans h.blk, fun b hb hbg hbX => (hg.block b (by omega) (fun e => hbg (by injection e))).trans (h.kp b hb hbg hbX), Nat.le_trans h.sz hg.size, h.hg, h.hX, h.hK⟩
theorem Gro.below (h : Gro w K W g X c v l r) (hb : Below W.heap.size W W') : Gro w K W' g X c v l r := by
  have h1 := h.hg
  have h2 := h.hX
  have h3 := h.hK
  have h4 := h.sz
  exact ⟨ownsRow_below h.o hb, h.tp.below hb (by omega), only_below h.gr hb (by omega), (hb.block X (by omega)).trans h.blk, fun b hlt hbg hbX => (hb.block b (by omega)).trans (h.kp b hlt hbg hbX), Nat.le_trans h.sz hb.size, h.hg, h.hX, h.hK⟩
theorem Gro.alloc (h : Gro w K W g X c v l r) (o : Obj) : Gro w K (W.alloc o) g X c v l r := h.below ((Below.refl _ _).alloc (Nat.le_refl _) o)
theorem Gro.drew (h : Gro w K W g X c v l r) : Gro w K W.drew g X c v l r := h.below (Below.drew (Below.refl _ _))
theorem Gro.app (h : Gro w K W g X c v l r) {v' : Value} {x : Int} (hown : W'.ownsRow K.heap.size 3 1 v' (l.length + 1) (l.map (Value.int .i64) ++ [.int .i64 x])) (hg : W.grownBy W' v.ownBlock) : Gro w K W' g X c v' (l ++ [x]) r := by
  have h1 := h.hg
  have h2 := h.hX
  have h3 := h.hK
  have h4 := h.sz
  have hb := own_base h.o
  refine ⟨by rw [List.length_append, List.map_append]; exact hown, h.tp.grown hg (fun k e => by have := hb k e; omega), only_grown h.gr hg (fun x e => by have := hb x e; omega), (hg.block X (by omega) (fun e => by have := hb X e.symm; omega)).trans h.blk, fun b hlt hbg hbX => (hg.block b (by omega) (fun e => by have := hb b e.symm; omega)).trans (h.kp b hlt hbg hbX), Nat.le_trans h.sz hg.size, h.hg, h.hX, h.hK⟩
theorem Gro.put (h : Gro w K W g X c v l r) {o : Nat} {u : Value} {c' : Obj} (hc : (W.setCell ⟨X, o, none⟩ u).heap[X]? = some c') : Gro w K (W.setCell ⟨X, o, none⟩ u) g X c' v l r := by
  have h1 := h.hg
  have h2 := h.hX
  have h3 := h.hK
  have h4 := h.sz
  have hs : (W.setCell ⟨X, o, none⟩ u).heap.size = W.heap.size := by simp [World.setCell]
  refine ⟨own_setOut h.o (p := ⟨X, o, none⟩) h3 u, h.tp.setCell (by show g < X; omega) u, only_setCell h.gr (Or.inr h2) u, hc, fun b hlt hbg hbX => (Below.heap_setCell W ⟨X, o, none⟩ u b hbX).trans (h.kp b hlt hbg hbX), by rw [hs]; exact h4, h1, h2, h3⟩
end
theorem Gro.start {w K : World} {g X : Nat} {c : Obj} {r : List Int} (ht : TapeAt K g r) (hg : w.grownBy K (some g)) (hb : K.heap[X]? = some c) (h1 : g < w.heap.size) (h2 : w.heap.size ≤ X) : Gro w K K g X c (.slice none 0 0) [] r := by
  refine ⟨World.ownsRow_nil _ _ _ _, ht, hg, hb, fun _ _ _ _ => rfl, Nat.le_refl _, h1, h2, ?_⟩
  rcases Nat.lt_or_ge X K.heap.size with h | h
  · exact h
  · rw [Array.getElem?_eq_none h] at hb; cases hb
/-- The same in a later world, with a new row. -/
theorem Gro.next {w K W : World} {g X : Nat} {c : Obj} {v : Value} {l r : List Int} (h : Gro w K W g X c v l r) : Gro w W W g X c (.slice none 0 0) [] r := Gro.start h.tp h.gr h.blk h.hg h.hX
theorem Gro.old {w K W : World} {g X : Nat} {c : Obj} {v : Value} {l r : List Int} (h : Gro w K W g X c v l r) {base : Nat} {e : TypeId} {size n : Nat} {u : Value} {xs : List Value} (ho : K.ownsRow base e size u n xs) (hX : X < base) (hg : g < base) : W.ownsRow base e size u n xs :=
  own_keep ho (fun b hb hB => h.kp b hb (by omega) (by omega))
theorem pick5 {W : World} {Y : Nat} {t : TypeId} {a b c d e : Int} (h : W.heap[Y]? = some (.cells #[.int .i64 a, .int .i64 b, .int .i64 c, .int .i64 d, .int .i64 e] t (0, 0))) (lo hi : Int) (ha : ∀ x ∈ [a, b, c, d, e], lo ≤ x ∧ x ≤ hi) (k : Nat) (hk : k < 5) : ∃ x, (lo ≤ x ∧ x ≤ hi) ∧ W.cell? ⟨Y, k, none⟩ = some (.int .i64 x) := by
  have h0 := ha a (by simp)
  have h1 := ha b (by simp)
  have h2 := ha c (by simp)
  have h3 := ha d (by simp)
  have h4 := ha e (by simp)
  match k, hk with
  | 0, _ => exact ⟨a, h0, by rw [cell_of_row W Y 0 _ _ _ h]; rfl⟩
  | 1, _ => exact ⟨b, h1, by rw [cell_of_row W Y 1 _ _ _ h]; rfl⟩
  | 2, _ => exact ⟨c, h2, by rw [cell_of_row W Y 2 _ _ _ h]; rfl⟩
  | 3, _ => exact ⟨d, h3, by rw [cell_of_row W Y 3 _ _ _ h]; rfl⟩
  | 4, _ => exact ⟨e, h4, by rw [cell_of_row W Y 4 _ _ _ h]; rfl⟩
  | n + 5, h => omega
/-- The lists of a plan, in rows of their own. -/
structure PlOwn (w : World) (base : Nat) (p : PlV) (q : Pl) : Prop where
  o1 : w.ownsRow base 3 1 (.slice p.a1 q.ws.length p.c1) q.ws.length (q.ws.map (.int .i64))
  o2 : w.ownsRow base 3 1 (.slice p.a2 q.ls.length p.c2) q.ls.length (q.ls.map (.int .i64))
  o3 : w.ownsRow base 3 1 (.slice p.a3 q.ss.length p.c3) q.ss.length (q.ss.map (.int .i64))
theorem PlOwn.at {w : World} {base : Nat} {p : PlV} {q : Pl} (h : PlOwn w base p q) : PlAt w p q := ⟨Sl.of_own h.o1 (by simp), Sl.of_own h.o2 (by simp), Sl.of_own h.o3 (by simp)⟩
theorem PlOwn.only {w w' : World} {base g : Nat} {p : PlV} {q : Pl} (h : PlOwn w base p q) (hg : w.grownBy w' (some g)) (hb : g < base) : PlOwn w' base p q := ⟨ownsRow_only h.o1 hg hb, ownsRow_only h.o2 hg hb, ownsRow_only h.o3 hg hb⟩
theorem PlOwn.below {w w' : World} {base : Nat} {p : PlV} {q : Pl} (h : PlOwn w base p q) (hb : Below w.heap.size w w') : PlOwn w' base p q := ⟨ownsRow_below h.o1 hb, ownsRow_below h.o2 hb, ownsRow_below h.o3 hb⟩
theorem PlOwn.rebase {w : World} {base base' : Nat} {p : PlV} {q : Pl} (h : PlOwn w base p q) (hb : base' ≤ base) : PlOwn w base' p q := ⟨own_rebase h.o1 hb, own_rebase h.o2 hb, own_rebase h.o3 hb⟩

theorem ascN_snoc {l : List Int} {a : Int} (h : ascN l l.length = true) (ha : ∀ x ∈ l, x < a) : ascN (l ++ [a]) (l ++ [a]).length = true := by
  rw [List.length_append]
  show ascN (l ++ [a]) (l.length + 1) = true
  rw [ascN_succ]
  have h1 : ascN (l ++ [a]) l.length = true := by
    unfold ascN at *
    rw [List.all_eq_true] at *
    intro i hi
    have := h i hi
    rw [List.mem_range] at hi
    have e1 : (l ++ [a]).getD i 0 = l.getD i 0 := by simp [List.getD_eq_getElem?_getD, List.getElem?_append_left hi]
    have e2 : (l ++ [a]).getD (i - 1) 0 = l.getD (i - 1) 0 := by simp [List.getD_eq_getElem?_getD, List.getElem?_append_left (show i - 1 < l.length by omega)]
    rw [e1, e2]
    exact this
  rw [h1]
  rcases Nat.eq_zero_or_pos l.length with h0 | h0
  · simp [h0]
  · have e1 : (l ++ [a]).getD l.length 0 = a := by simp [List.getD_eq_getElem?_getD]
    have e2 : (l ++ [a]).getD (l.length - 1) 0 = l[l.length - 1] := by simp [List.getD_eq_getElem?_getD, List.getElem?_append_left (show l.length - 1 < l.length by omega), List.getElem?_eq_getElem (show l.length - 1 < l.length by omega)]
    rw [e1, e2]
    simp [ha l[l.length - 1] (List.getElem_mem _)]
theorem checkP_of {q : Pl} (h1 : 1 ≤ q.ws.length ∧ q.ws.length ≤ 6) (h2 : ∀ x ∈ q.ws, 0 ≤ x ∧ x ≤ 100) (h3 : q.ls.length ≤ 5) (h4 : ∀ x ∈ q.ls, 1 ≤ x ∧ x ≤ 60000) (h5 : q.ss.length = q.ls.length + 1) (h6 : ∀ x ∈ q.ss, 0 ≤ x ∧ x ≤ 1000) (h7 : 0 ≤ q.le ∧ q.le ≤ 60) (h8 : 0 ≤ q.ra ∧ q.ra ≤ 1000) (h9 : ascN q.ls q.ls.length = true) : checkP q = 0 := by
  have ha : ∀ (lo hi : Int) (l : List Int), (∀ x ∈ l, lo ≤ x ∧ x ≤ hi) → l.any (outP lo hi) = false := by
    intro lo hi l h
    rw [List.any_eq_false]
    intro x hx
    have := h x hx
    simp [outP]
    omega
  unfold checkP
  rw [if_pos]
  rw [planB_iff]
  exact ⟨h1, ha _ _ _ h2, h3, ha _ _ _ h4, h5, ha _ _ _ h6, by simp [outP]; omega, by simp [outP]; omega, h9⟩
/-- What Plan leaves. -/
def PlanPost (w : World) (g : Nat) (e : Ending) (w' : World) : Prop :=
  ∃ (p : PlV) (q : Pl) (r : List Int), e = .returned (.agg #[.slice p.a1 q.ws.length p.c1, .slice p.a2 q.ls.length p.c2, .slice p.a3 q.ss.length p.c3, .int .i64 q.le, .int .i64 q.ra]) ∧ PlOwn w' w.heap.size p q ∧ TapeAt w' g r ∧ w.grownBy w' (some g) ∧ checkP q = 0 ∧ q.le ≤ 2
end Go.Proofs.Ytjmbdfoegnfpnaa
