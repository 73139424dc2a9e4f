/- Words: variables that hold tapes; plain facts of crashes. -/
import Derived.Test.YtbkfdpdcnjecbaaTq
import Derived.Test.YtbkfdpdcnjecbaaAk
namespace Go.Proofs.Ytbkfdpdcnjecbaa
open Go.RowKit
set_option linter.unusedVariables false

/-- Block b holds this tape. -/
structure TB (w : World) (b : Nat) (A : Option Addr) (n c : Nat) (B : Option Addr) (m d : Nat) : Prop where
  eq : w.heap[b]? = some (.cells #[.slice A n c, .slice B m d] 28 (0, 0))
section
variable {w w' : World} {b : Nat} {A : Option Addr} {n c : Nat} {B : Option Addr} {m d : Nat}
theorem TB.lt (h : TB w b A n c B m d) : b < w.heap.size := by
  rcases Nat.lt_or_ge b w.heap.size with h' | h'
  · exact h'
  · have := h.eq; rw [Array.getElem?_eq_none h'] at this; cases this
theorem TB.new (w : World) (A : Option Addr) (n c : Nat) (B : Option Addr) (m d : Nat) : TB (w.alloc (.cells #[.slice A n c, .slice B m d] 28)) w.heap.size A n c B m d := ⟨heap_alloc_new w _⟩
theorem TB.below (h : TB w b A n c B m d) (hb : Below w.heap.size w w') : TB w' b A n c B m d := ⟨(hb.block b h.lt).trans h.eq⟩
theorem TB.alloc (h : TB w b A n c B m d) (o : Obj) : TB (w.alloc o) b A n c B m d := h.below ((Below.refl _ _).alloc (Nat.le_refl _) o)
theorem TB.drewN (h : TB w b A n c B m d) (k : Nat) : TB (w.drewN k) b A n c B m d := ⟨h.eq⟩
theorem TB.grown {row : Option Nat} (h : TB w b A n c B m d) (hg : w.grownBy w' row) (hr : row ≠ some b) : TB w' b A n c B m d := ⟨(hg.block b h.lt (fun e => hr e.symm)).trans h.eq⟩
theorem TB.facts (h : TB w b A n c B m d) : w.cell? ⟨b, 0, none⟩ = some (.slice A n c) ∧ w.cell? ⟨b, 1, none⟩ = some (.slice B m d) ∧ w.frozen? ⟨b, 0, none⟩ = false ∧ w.frozen? ⟨b, 1, none⟩ = false :=
  ⟨cell_of_row w b 0 _ _ _ h.eq, cell_of_row w b 1 _ _ _ h.eq, frozen_of_row w b 0 _ _ h.eq, frozen_of_row w b 1 _ _ h.eq⟩
theorem TB.set_ {A' : Option Addr} {n' c' : Nat} {B' : Option Addr} {m' d' : Nat} (h : TB w b A n c B m d) : TB ((w.setCell ⟨b, 0, none⟩ (.slice A' n' c')).setCell ⟨b, 1, none⟩ (.slice B' m' d')) b A' n' c' B' m' d' := by
  have h1 := heap_setCell_same w b 0 _ _ (.slice A' n' c') h.eq
  have h2 := heap_setCell_same _ b 1 _ _ (.slice B' m' d') h1
  exact ⟨by simpa using h2⟩
theorem TB.far {a : Nat} (h : TB w b A n c B m d) (hne : b ≠ a) (i j : Nat) (u v : Value) : TB ((w.setCell ⟨a, i, none⟩ u).setCell ⟨a, j, none⟩ v) b A n c B m d :=
  ⟨(Below.heap_setCell _ _ _ _ hne).trans ((Below.heap_setCell _ _ _ _ hne).trans h.eq)⟩
theorem Sl8.tb {X : Option Addr} {p q : Nat} {l : List Int} (h : Sl8 w X p q l) (ht : TB w b A n c B m d) (u v : Value) : Sl8 ((w.setCell ⟨b, 0, none⟩ u).setCell ⟨b, 1, none⟩ v) X p q l := h.box ht.eq u v
end
theorem app_take (s u : List Int) (j : Nat) : s ++ u.take j = (s ++ u).take (s.length + j) := by rw [List.take_length_add_append]
theorem fix_recs (l : List Ord4) (h : Grow 0 l) : fixB (recs l) = recs l := by
  have := fixB_take l (recs l).length h
  rw [List.take_length] at this
  rw [this, recs_len, show 28 * l.length / 28 = l.length from by omega, List.take_length]
/-- What a crash of a fine tape leaves. -/
theorem crash_fine {t : TS} (h : Fine t) (j : Nat) : t.s ++ t.u.take j = (recs t.os).take (t.s.length + j) := by rw [app_take, h.bytes]
end Go.Proofs.Ytbkfdpdcnjecbaa
