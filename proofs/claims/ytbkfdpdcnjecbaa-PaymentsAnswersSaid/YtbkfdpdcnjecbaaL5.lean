/- PaymentsSafe: plain laws, what its loop keeps. -/
import Derived.Test.YtbkfdpdcnjecbaaTB
import Derived.Test.YtbkfdpdcnjecbaaTt
import Derived.Deep.DeepMust
namespace Go.Proofs.Ytbkfdpdcnjecbaa
open Go.RowKit
set_option linter.unusedVariables false

/-- What holds of the tape, its orders and the number of those that are safe. -/
structure SF (s u : List Int) (os : List Ord4) (q : Nat) : Prop where
  bytes : s ++ u = recs os
  grow : Grow 0 os
  last : lastN os ≤ os.length
  safe : s = recs (os.take q)
  le : q ≤ os.length
theorem SF.nil : SF [] [] [] 0 := ⟨rfl, trivial, Int.le_refl _, rfl, Nat.le_refl _⟩
theorem SF.step {s u : List Int} {os : List Ord4} {q : Nat} (h : SF s u os q) (hk : os.length < 200) (r : List Int) (o : Ord4) (ho : mkO r ((os.length : Int) + 1) = o) :
    writeB s u o = (u ++ recB o, 0) ∧ SF s (u ++ recB o) (os ++ [o]) q ∧ SF (s ++ (u ++ recB o)) [] (os ++ [o]) (os.length + 1) := by
  have h1 := h.last
  have hn : o.n = (os.length : Int) + 1 := by rw [← ho]; rfl
  have hr : rightB o = true := by rw [← ho]; exact mkO_right r _ (by omega)
  have hg : Grow 0 (os ++ [o]) := h.grow.snoc hr (by split <;> omega)
  have hl : lastN (os ++ [o]) ≤ ((os ++ [o]).length : Int) := by rw [lastN_snoc, hn]; simp
  have hb : s ++ (u ++ recB o) = recs (os ++ [o]) := by rw [← List.append_assoc, h.bytes, recs_app, recs_one]
  refine ⟨write_fine s u os o h.bytes h.grow hr (by omega) hk, ⟨hb, hg, hl, ?_, ?_⟩, ⟨by rw [List.append_nil]; exact hb, hg, hl, ?_, ?_⟩⟩
  · rw [List.take_append_of_le_length h.le]; exact h.safe
  · have := h.le; simp; omega
  · rw [hb, List.take_of_length_le (by simp)]
  · simp
theorem SF.crash {s u : List Int} {os : List Ord4} {q : Nat} (h : SF s u os q) (j : Nat) : ∃ J, s ++ u.take j = (recs os).take J ∧ q ≤ (os.take (J / 28)).length := by
  refine ⟨s.length + j, by rw [app_take, h.bytes], ?_⟩
  have h1 := congrArg List.length h.safe
  rw [recs_len, List.length_take, Nat.min_eq_left h.le] at h1
  have := h.le
  rw [List.length_take]
  omega

/-- The variables of the loop. -/
structure SInv (w wr : World) (g : Nat) (A : Option Addr) (n c : Nat) (B : Option Addr) (m d : Nat) (l : Value) (os : List Ord4) (s u r : List Int) : Prop where
  b1 : TB wr w.heap.size A n c B m d
  sA : Sl8 wr A n c s
  sB : Sl8 wr B m d u
  own : wr.ownsRow (w.heap.size + 1) 32 4 l os.length (ordCells os)
  tp : TapeAt wr g r
  gr : w.grownBy wr (some g)
  fA : 0 < n → ∀ ad, A = some ad → w.heap.size ≤ ad.block ∧ l.ownBlock ≠ some ad.block
  fB : 0 < m → ∀ ad, B = some ad → w.heap.size ≤ ad.block ∧ l.ownBlock ≠ some ad.block
section
variable {w wr w' : World} {g : Nat} {A : Option Addr} {n c : Nat} {B : Option Addr} {m d : Nat} {l : Value} {os : List Ord4} {s u r : List Int}
theorem SInv.lt (h : SInv w wr g A n c B m d l os s u r) : w.heap.size < wr.heap.size := h.b1.lt
theorem SInv.below (h : SInv w wr g A n c B m d l os s u r) (hg : g < w.heap.size) (hb : Below wr.heap.size wr w') : SInv w w' g A n c B m d l os s u r := by
  have := h.lt
  exact ⟨h.b1.below hb, h.sA.below hb, h.sB.below hb, ownsRow_below h.own hb, h.tp.below hb (by omega), only_below h.gr hb h.gr.size, h.fA, h.fB⟩
theorem SInv.next {r' : List Int} (h : SInv w wr g A n c B m d l os s u r) (hg : g < w.heap.size) (hn : wr.grownBy w' (some g)) (ht : TapeAt w' g r') : SInv w w' g A n c B m d l os s u r' := by
  have := h.lt
  refine ⟨h.b1.grown hn (by intro e; injection e; omega), h.sA.grown0 hn (fun h0 ad e e2 => ?_), h.sB.grown0 hn (fun h0 ad e e2 => ?_), ownsRow_only h.own hn (by omega), ht, only_trans h.gr hn, h.fA, h.fB⟩
  · injection e2 with e2; have := (h.fA h0 ad e).1; omega
  · injection e2 with e2; have := (h.fB h0 ad e).1; omega
theorem SInv.store {A' B' : Option Addr} {n' c' m' d' : Nat} {s' u' : List Int} (h : SInv w wr g A n c B m d l os s u r) (hg : g < w.heap.size) (hA : Sl8 wr A' n' c' s') (hB : Sl8 wr B' m' d' u')
    (fA : 0 < n' → ∀ ad, A' = some ad → w.heap.size ≤ ad.block ∧ l.ownBlock ≠ some ad.block) (fB : 0 < m' → ∀ ad, B' = some ad → w.heap.size ≤ ad.block ∧ l.ownBlock ≠ some ad.block) :
    SInv w ((wr.setCell ⟨w.heap.size, 0, none⟩ (.slice A' n' c')).setCell ⟨w.heap.size, 1, none⟩ (.slice B' m' d')) g A' n' c' B' m' d' l os s' u' r := by
  have hl := h.lt
  exact ⟨h.b1.set_, hA.tb h.b1 _ _, hB.tb h.b1 _ _, ownsRow_setCell_below (ownsRow_setCell_below h.own (a := ⟨w.heap.size, 0, none⟩) (by simp) _) (a := ⟨w.heap.size, 1, none⟩) (by simp) _,
    (h.tp.setCell (p := ⟨w.heap.size, 0, none⟩) hg _).setCell (p := ⟨w.heap.size, 1, none⟩) hg _, only_setCell (only_setCell h.gr (.inr (by simp)) _) (.inr (by simp)) _, fA, fB⟩
theorem SInv.lt_of {X : Option Addr} {p q : Nat} {z : List Int} (h : Sl8 wr X p q z) (hp : 0 < p) {ad : Addr} (e : X = some ad) : ad.block < wr.heap.size := by
  rcases h.lies with h0 | ⟨b, off, e', hlt, _⟩
  · omega
  · rw [e] at e'; injection e' with e'; subst e'; exact hlt
theorem SInv.push {o : Ord4} {l' : Value} {A' B' : Option Addr} {n' c' m' d' : Nat} {s' u' : List Int} (h : SInv w wr g A n c B m d l os s u r) (hg : g < w.heap.size) (hA : Sl8 wr A' n' c' s') (hB : Sl8 wr B' m' d' u')
    (fA : 0 < n' → ∀ ad, A' = some ad → w.heap.size ≤ ad.block ∧ l.ownBlock ≠ some ad.block) (fB : 0 < m' → ∀ ad, B' = some ad → w.heap.size ≤ ad.block ∧ l.ownBlock ≠ some ad.block)
    (ho : w'.ownsRow (w.heap.size + 1) 32 4 l' (os.length + 1) (ordCells os ++ [.int .i64 o.n, .int .i64 o.f, .int .i64 o.a, .int .i64 o.d]))
    (hn : wr.grownBy w' l.ownBlock) (hat : l'.ownBlock = l.ownBlock ∨ l'.ownBlock = some wr.heap.size) :
    SInv w ((w'.setCell ⟨w.heap.size, 0, none⟩ (.slice A' n' c')).setCell ⟨w.heap.size, 1, none⟩ (.slice B' m' d')) g A' n' c' B' m' d' l' (os ++ [o]) s' u' r := by
  have hl := h.lt
  have hb := own_base h.own
  have key : ∀ (X : Option Addr) (p q : Nat) (z : List Int), Sl8 wr X p q z → (0 < p → ∀ ad, X = some ad → w.heap.size ≤ ad.block ∧ l.ownBlock ≠ some ad.block) → (0 < p → ∀ ad, X = some ad → w.heap.size ≤ ad.block ∧ l'.ownBlock ≠ some ad.block) := fun X p q z hs hf h0 ad e => by
    refine ⟨(hf h0 ad e).1, ?_⟩
    have h1 := (hf h0 ad e).2
    have h2 := SInv.lt_of hs h0 e
    rcases hat with e' | e'
    · rw [e']; exact h1
    · rw [e']; intro e2; injection e2; omega
  have base : SInv w w' g A n c B m d l' (os ++ [o]) s u r :=
    ⟨h.b1.grown hn (by intro e; have := hb _ e; omega), h.sA.grown0 hn (fun h0 ad e => (h.fA h0 ad e).2), h.sB.grown0 hn (fun h0 ad e => (h.fB h0 ad e).2), by rw [ordCells_snoc, List.length_append]; exact ho,
     h.tp.grown hn (fun k hk => by have := hb k hk; omega), only_grown h.gr hn (fun k hk => by have := hb k hk; omega), key _ _ _ _ h.sA h.fA, key _ _ _ _ h.sB h.fB⟩
  exact base.store hg (hA.grown0 hn (fun h0 ad e => (fA h0 ad e).2)) (hB.grown0 hn (fun h0 ad e => (fB h0 ad e).2)) (key _ _ _ _ hA fA) (key _ _ _ _ hB fB)
end
end Go.Proofs.Ytbkfdpdcnjecbaa
