/- Words: the tape of orders that the laws make; what a loop that writes orders keeps. -/
import Derived.Test.YtbkfdpdcnjecbaaPl
import Derived.Test.YtbkfdpdcnjecbaaWr
import Derived.Test.YtbkfdpdcnjecbaaSa
namespace Go.Proofs.Ytbkfdpdcnjecbaa
open Go.RowKit
set_option linter.unusedVariables false

/-- A tape's bytes, its orders, the last number, the numbers to come. -/
structure TS where
  s : List Int
  u : List Int
  os : List Ord4
  n : Int
  r : List Int
/-- One order more, and now and then all bytes made safe. -/
def stepT (t : TS) : TS :=
  let n := t.n + (1 + nx t.r 3)
  let o := mkO t.r.tail n
  let r := t.r.tail.tail.tail.tail.tail
  let u := (writeB t.s t.u o).1
  if oneB r 3 then ⟨t.s ++ u, [], t.os ++ [o], n, r.tail⟩ else ⟨t.s, u, t.os ++ [o], n, r.tail⟩
def runT : Nat → TS → TS
  | 0, t => t
  | k + 1, t => runT k (stepT t)
def mkTape (r : List Int) : TS := runT (nx r 6).toNat ⟨[], [], [], 0, r.tail⟩
/-- What holds of each tape that comes about. -/
structure Fine (t : TS) : Prop where
  bytes : t.s ++ t.u = recs t.os
  grow : Grow 0 t.os
  last : lastN t.os ≤ t.n
  low : 0 ≤ t.n
theorem mkO_right (r : List Int) (n : Int) (h : 1 ≤ n ∧ n ≤ 1000000) : rightB (mkO r n) = true := by
  have b1 := nx_bd r 60 (by omega)
  have b2 := nx_bd r.tail 200 (by omega)
  have b3 := nx_bd r.tail.tail 2000 (by omega)
  have b4 := nx_bd r.tail.tail.tail 900 (by omega)
  have h1 := Int.mul_nonneg b2.1 b3.1
  have h2 : nx r.tail 200 * nx r.tail.tail 2000 ≤ 200 * 2000 := Int.mul_le_mul (by omega) (by omega) (by omega) (by omega)
  rw [rightB_iff]
  unfold mkO
  dsimp only
  omega
theorem write_fine (s u : List Int) (os : List Ord4) (o : Ord4) (hb : s ++ u = recs os) (hg : Grow 0 os) (ho : rightB o = true) (hl : lastN os < o.n) (hk : os.length < 200) : writeB s u o = (u ++ recB o, 0) := by
  unfold writeB
  rw [hb, ordsB_all os hg, ho]
  have h1 : ¬ o.n ≤ lastN os := by omega
  have h2 : ¬ 200 ≤ os.length := by omega
  simp [h1, h2]
theorem step_write (t : TS) (h : Fine t) (hk : t.os.length < 200) (hn : t.n ≤ 900000) :
    writeB t.s t.u (mkO t.r.tail (t.n + (1 + nx t.r 3))) = (t.u ++ recB (mkO t.r.tail (t.n + (1 + nx t.r 3))), 0) ∧ rightB (mkO t.r.tail (t.n + (1 + nx t.r 3))) = true ∧ lastN t.os < (mkO t.r.tail (t.n + (1 + nx t.r 3))).n := by
  have b := nx_bd t.r 3 (by omega)
  have h1 := h.low
  have h2 := h.last
  have hr := mkO_right t.r.tail (t.n + (1 + nx t.r 3)) (by omega)
  have hl : lastN t.os < (mkO t.r.tail (t.n + (1 + nx t.r 3))).n := by show lastN t.os < t.n + (1 + nx t.r 3); omega
  exact ⟨write_fine _ _ _ _ h.bytes h.grow hr hl hk, hr, hl⟩
theorem step_fine (t : TS) (h : Fine t) (hk : t.os.length < 200) (hn : t.n ≤ 900000) : Fine (stepT t) ∧ (stepT t).os.length = t.os.length + 1 ∧ (stepT t).n ≤ t.n + 3 := by
  obtain ⟨hw, hr, hl⟩ := step_write t h hk hn
  have b := nx_bd t.r 3 (by omega)
  have h1 := h.low
  unfold stepT
  dsimp only
  rw [hw]
  have hg : Grow 0 (t.os ++ [mkO t.r.tail (t.n + (1 + nx t.r 3))]) := h.grow.snoc hr (by
    split
    · show 0 < t.n + (1 + nx t.r 3); omega
    · exact hl)
  split
  · exact ⟨⟨by rw [List.append_nil, ← List.append_assoc, h.bytes, recs_app, recs_one], hg, by rw [lastN_snoc]; exact Int.le_refl _, by dsimp only; omega⟩, by simp, by dsimp only; omega⟩
  · exact ⟨⟨by rw [← List.append_assoc, h.bytes, recs_app, recs_one], hg, by rw [lastN_snoc]; exact Int.le_refl _, by dsimp only; omega⟩, by simp, by dsimp only; omega⟩
theorem run_fine (k : Nat) : ∀ t, Fine t → t.os.length + k ≤ 100 → t.n + 3 * k ≤ 90000 → Fine (runT k t) ∧ (runT k t).os.length = t.os.length + k := by
  induction k with
  | zero => intro t h _ _; exact ⟨h, rfl⟩
  | succ k ih =>
    intro t h h1 h2
    obtain ⟨a, b, c⟩ := step_fine t h (by omega) (by omega)
    obtain ⟨d, e⟩ := ih (stepT t) a (by omega) (by omega)
    exact ⟨d, by show (runT k (stepT t)).os.length = _; omega⟩
theorem mk_fine (r : List Int) : Fine (mkTape r) ∧ (mkTape r).os.length ≤ 5 := by
  have b := nx_bd r 6 (by omega)
  have := run_fine (nx r 6).toNat ⟨[], [], [], 0, r.tail⟩ ⟨rfl, trivial, Int.le_refl _, Int.le_refl _⟩ (by simp; omega) (by simp; omega)
  refine ⟨this.1, ?_⟩
  have h2 := this.2
  unfold mkTape
  simp at h2
  omega

theorem Sl8.grown0 {w w' : World} {A : Option Addr} {n c : Nat} {l : List Int} {row : Option Nat} (h : Sl8 w A n c l) (hg : w.grownBy w' row) (hr : 0 < n → ∀ ad, A = some ad → row ≠ some ad.block) : Sl8 w' A n c l := by
  rcases Nat.eq_zero_or_pos n with h0 | h0
  · exact ⟨h.len, h.cap, h.top, h.byt, .inl h0⟩
  · exact h.grown hg (hr h0)
/-- The variables of a loop that writes orders onto a tape: the result's box (nil), the tape's box, the orders' row, the numbers to come. -/
structure TInv (w wr : World) (g : Nat) (A : Option Addr) (n c : Nat) (B : Option Addr) (m d : Nat) (l : Value) (os : List Ord4) (s u r : List Int) : Prop where
  b0 : wr.heap[w.heap.size]? = some (.cells #[.slice none 0 0, .slice none 0 0] 28 (0, 0))
  b1 : wr.heap[w.heap.size + 1]? = some (.cells #[.slice A n c, .slice B m d] 28 (0, 0))
  sA : Sl8 wr A n c s
  sB : Sl8 wr B m d u
  own : wr.ownsRow (w.heap.size + 2) 32 4 l os.length (ordCells os)
  tp : TapeAt wr g r
  gr : w.grownBy wr (some g)
  fA : 0 < n → ∀ ad, A = some ad → w.heap.size ≤ ad.block ∧ l.ownBlock ≠ some ad.block
  fB : 0 < m → ∀ ad, B = some ad → w.heap.size ≤ ad.block ∧ l.ownBlock ≠ some ad.block
section
variable {w wr w' : World} {g : Nat} {A : Option Addr} {n c : Nat} {B : Option Addr} {m d : Nat} {l : Value} {os : List Ord4} {s u r : List Int}
theorem TInv.lt (h : TInv w wr g A n c B m d l os s u r) : w.heap.size + 1 < wr.heap.size := by
  rcases Nat.lt_or_ge (w.heap.size + 1) wr.heap.size with h' | h'
  · exact h'
  · have := h.b1; rw [Array.getElem?_eq_none h'] at this; cases this
theorem TInv.below (h : TInv w wr g A n c B m d l os s u r) (hg : g < w.heap.size) (hb : Below wr.heap.size wr w') : TInv w w' g A n c B m d l os s u r := by
  have := h.lt
  exact ⟨(hb.block _ (by omega)).trans h.b0, (hb.block _ (by omega)).trans h.b1, h.sA.below hb, h.sB.below hb, ownsRow_below h.own hb, h.tp.below hb (by omega), only_below h.gr hb h.gr.size, h.fA, h.fB⟩
theorem TInv.next {r' : List Int} (h : TInv w wr g A n c B m d l os s u r) (hg : g < w.heap.size) (hn : wr.grownBy w' (some g)) (ht : TapeAt w' g r') : TInv w w' g A n c B m d l os s u r' := by
  have := h.lt
  refine ⟨(hn.block _ (by omega) (by intro e; injection e; omega)).trans h.b0, (hn.block _ (by omega) (by intro e; injection e; omega)).trans h.b1, h.sA.grown0 hn (fun h0 ad e e2 => ?_), h.sB.grown0 hn (fun h0 ad e e2 => ?_), ownsRow_only h.own hn (by omega), ht, only_trans h.gr hn, h.fA, h.fB⟩
  · injection e2 with e2; have := (h.fA h0 ad e).1; omega
  · injection e2 with e2; have := (h.fB h0 ad e).1; omega
theorem TInv.store {A' B' : Option Addr} {n' c' m' d' : Nat} {s' u' : List Int} (h : TInv w wr g A n c B m d l os s u r) (hg : g < w.heap.size) (hA : Sl8 wr A' n' c' s') (hB : Sl8 wr B' m' d' u')
    (fA : 0 < n' → ∀ ad, A' = some ad → w.heap.size ≤ ad.block ∧ l.ownBlock ≠ some ad.block) (fB : 0 < m' → ∀ ad, B' = some ad → w.heap.size ≤ ad.block ∧ l.ownBlock ≠ some ad.block) :
    TInv w ((wr.setCell ⟨w.heap.size + 1, 0, none⟩ (.slice A' n' c')).setCell ⟨w.heap.size + 1, 1, none⟩ (.slice B' m' d')) g A' n' c' B' m' d' l os s' u' r := by
  have hl := h.lt
  refine ⟨?_, ?_, hA.box h.b1 _ _, hB.box h.b1 _ _, ownsRow_setCell_below (ownsRow_setCell_below h.own (a := ⟨w.heap.size + 1, 0, none⟩) (by simp) _) (a := ⟨w.heap.size + 1, 1, none⟩) (by simp) _,
    (h.tp.setCell (p := ⟨w.heap.size + 1, 0, none⟩) (show g < w.heap.size + 1 by omega) _).setCell (p := ⟨w.heap.size + 1, 1, none⟩) (show g < w.heap.size + 1 by omega) _, only_setCell (only_setCell h.gr (.inr (by simp)) _) (.inr (by simp)) _, fA, fB⟩
  · exact (Below.heap_setCell _ _ _ _ (by simp)).trans ((Below.heap_setCell _ _ _ _ (by simp)).trans h.b0)
  · have h1 := heap_setCell_same wr (w.heap.size + 1) 0 _ _ (.slice A' n' c') h.b1
    have h2 := heap_setCell_same _ (w.heap.size + 1) 1 _ _ (.slice B' m' d') h1
    simpa using h2
theorem TInv.push {o : Ord4} {l' : Value} (h : TInv w wr g A n c B m d l os s u r) (hg : g < w.heap.size) (ho : w'.ownsRow (w.heap.size + 2) 32 4 l' (os.length + 1) (ordCells os ++ [.int .i64 o.n, .int .i64 o.f, .int .i64 o.a, .int .i64 o.d]))
    (hn : wr.grownBy w' l.ownBlock) (hat : l'.ownBlock = l.ownBlock ∨ l'.ownBlock = some wr.heap.size) : TInv w w' g A n c B m d l' (os ++ [o]) s u r := by
  have hl := h.lt
  have hb := own_base h.own
  have fr : ∀ ad n c l, Sl8 wr (some ad) n c l → 0 < n → ad.block < wr.heap.size := fun ad n c l hs hn => by
    rcases hs.lies with h0 | ⟨b, off, e, hlt, _⟩
    · omega
    · injection e with e; subst e; exact hlt
  have key : ∀ (X : Option Addr) (p q : Nat) (z : List Int), Sl8 wr X p q z → (0 < p → ∀ ad, X = some ad → w.heap.size ≤ ad.block ∧ l.ownBlock ≠ some ad.block) → Sl8 w' X p q z := fun X p q z hs hf => hs.grown0 hn (fun h0 ad e => (hf h0 ad e).2)
  refine ⟨(hn.block _ (by omega) (by intro e; have := hb _ e.symm; omega)).trans h.b0, (hn.block _ (by omega) (by intro e; have := hb _ e.symm; omega)).trans h.b1, key _ _ _ _ h.sA h.fA, key _ _ _ _ h.sB h.fB, ?_, h.tp.grown hn (fun k hk => by have := hb k hk; omega), only_grown h.gr hn (fun k hk => by have := hb k hk; omega), ?_, ?_⟩
  · rw [ordCells_snoc, List.length_append]; exact ho
  · rintro h0 ad rfl
    refine ⟨(h.fA h0 ad rfl).1, ?_⟩
    have h1 := (h.fA h0 ad rfl).2
    have h2 := fr ad _ _ _ h.sA h0
    rcases hat with e | e
    · rw [e]; exact h1
    · rw [e]; intro e2; injection e2; omega
  · rintro h0 ad rfl
    refine ⟨(h.fB h0 ad rfl).1, ?_⟩
    have h1 := (h.fB h0 ad rfl).2
    have h2 := fr ad _ _ _ h.sB h0
    rcases hat with e | e
    · rw [e]; exact h1
    · rw [e]; intro e2; injection e2; omega
end
end Go.Proofs.Ytbkfdpdcnjecbaa
