/- Contract: clone (draw). -/
import Derived.Test.YtjmbdfoegnfpnaaD3
import Derived.Test.YtjmbdfoegnfpnaaD4
namespace Go.Proofs.Ytjmbdfoegnfpnaa
open Go.RowKit
set_option linter.unusedVariables false
set_option linter.unusedSimpArgs false

def Apart (u v : Value) : Prop := ∀ k, u.ownBlock = some k → v.ownBlock ≠ some k
theorem Apart.symm {u v : Value} (h : Apart u v) : Apart v u := fun k h1 h2 => h k h2 h1
theorem Apart.of {u v : Value} {a b c e : Nat} (hu : ∀ k, u.ownBlock = some k → a ≤ k ∧ k < b) (hv : ∀ k, v.ownBlock = some k → c ≤ k ∧ k < e) (h : b ≤ c) : Apart u v := fun k h1 h2 => by
  have := hu k h1
  have := hv k h2
  omega
/-- A draw in rows of one's own. -/
structure OwnD (w : World) (base : Nat) (q : DV) (d : Dr) : Prop where
  o1 : w.ownsRow base 48 1 (.slice q.a1 d.se.length q.c1) d.se.length (d.se.map (.int .u64))
  o2 : w.ownsRow base 4 1 (.slice q.a2 d.sd.length q.c2) d.sd.length (d.sd.map .bool)
  o3 : w.ownsRow base 48 1 (.slice q.a3 d.sx.length q.c3) d.sx.length (d.sx.map (.int .u64))
  o4 : w.ownsRow base 4 1 (.slice q.a4 d.rv.length q.c4) d.rv.length (d.rv.map .bool)
  n12 : Apart (.slice q.a1 d.se.length q.c1) (.slice q.a2 d.sd.length q.c2)
  n13 : Apart (.slice q.a1 d.se.length q.c1) (.slice q.a3 d.sx.length q.c3)
  n14 : Apart (.slice q.a1 d.se.length q.c1) (.slice q.a4 d.rv.length q.c4)
  n23 : Apart (.slice q.a2 d.sd.length q.c2) (.slice q.a3 d.sx.length q.c3)
  n24 : Apart (.slice q.a2 d.sd.length q.c2) (.slice q.a4 d.rv.length q.c4)
  n34 : Apart (.slice q.a3 d.sx.length q.c3) (.slice q.a4 d.rv.length q.c4)
theorem OwnD.below {w w' : World} {base : Nat} {q : DV} {d : Dr} (h : OwnD w base q d) (hb : Below w.heap.size w w') : OwnD w' base q d :=
  ⟨ownsRow_below h.o1 hb, ownsRow_below h.o2 hb, ownsRow_below h.o3 hb, ownsRow_below h.o4 hb, h.n12, h.n13, h.n14, h.n23, h.n24, h.n34⟩
theorem Sl.of_own {w : World} {base : Nat} {e : TypeId} {A : Option Addr} {n c : Nat} {xs : List Value} (h : w.ownsRow base e 1 (.slice A n c) n xs) (hx : xs.length = n) : Sl w A c xs := by
  obtain ⟨A', c', e1, h1, h2, h3⟩ := own_slice h
  injection e1 with e1 _ e2
  subst e1 e2 hx
  exact ⟨h2, h3, h1⟩
theorem OwnD.at {w : World} {base : Nat} {q : DV} {d : Dr} (h : OwnD w base q d) : DrAt w q d :=
  ⟨Sl.of_own h.o1 (by simp), Sl.of_own h.o2 (by simp), Sl.of_own h.o3 (by simp), Sl.of_own h.o4 (by simp)⟩
/-- A draw with few parties. -/
def Dr.small (d : Dr) : Prop := d.se.length ≤ 1000000 ∧ d.sd.length ≤ 1000000 ∧ d.sx.length ≤ 1000000 ∧ d.rv.length ≤ 1000000
theorem box5 {w : World} {g : Nat} {t : TypeId} {a b c d e x y z u v : Value} (h : w.heap[g]? = some (.cells #[a, b, c, d, e] t (0, 0))) : (((((w.setCell ⟨g, 0, none⟩ x).setCell ⟨g, 1, none⟩ y).setCell ⟨g, 2, none⟩ z).setCell ⟨g, 3, none⟩ u).setCell ⟨g, 4, none⟩ v).heap[g]? = some (.cells #[x, y, z, u, v] t (0, 0)) := by
  have h1 := heap_setCell_same w g 0 _ _ x h
  have h2 := heap_setCell_same _ g 1 _ _ y h1
  have h3 := heap_setCell_same _ g 2 _ _ z h2
  have h4 := heap_setCell_same _ g 3 _ _ u h3
  have h5 := heap_setCell_same _ g 4 _ _ v h4
  rw [h5]
  simp
theorem box5_only {w : World} {g : Nat} {x y z u v : Value} : w.grownBy (((((w.setCell ⟨g, 0, none⟩ x).setCell ⟨g, 1, none⟩ y).setCell ⟨g, 2, none⟩ z).setCell ⟨g, 3, none⟩ u).setCell ⟨g, 4, none⟩ v) (some g) :=
  only_setCell (only_setCell (only_setCell (only_setCell (only_setCell (World.grownBy.refl _ (some g)) (.inl rfl) _) (.inl rfl) _) (.inl rfl) _) (.inl rfl) _) (.inl rfl) _
theorem box5_below {w0 w : World} {g B : Nat} {x y z u v : Value} (h : Below B w0 w) (hB : B ≤ g) : Below B w0 (((((w.setCell ⟨g, 0, none⟩ x).setCell ⟨g, 1, none⟩ y).setCell ⟨g, 2, none⟩ z).setCell ⟨g, 3, none⟩ u).setCell ⟨g, 4, none⟩ v) :=
  ((((h.setCell hB _).setCell hB _).setCell hB _).setCell hB _).setCell hB _
theorem own_only {w w' : World} {base : Nat} {e : TypeId} {size n : Nat} {v : Value} {xs : List Value} {g : Nat} (h : w.ownsRow base e size v n xs) (hg : w.grownBy w' (some g)) (hr : v.ownBlock ≠ some g) : w'.ownsRow base e size v n xs := by
  obtain ⟨h1, h2⟩ := h
  refine ⟨h1, ?_⟩
  rcases h2 with h2 | ⟨g', cap, cur, rfl, hb, hh, r⟩
  · exact .inl h2
  · have hlt : g' < w.heap.size := by
      rcases Nat.lt_or_ge g' w.heap.size with h | h
      · exact h
      · rw [Array.getElem?_eq_none h] at hh; cases hh
    refine .inr ⟨g', cap, cur, rfl, hb, (hg.block g' hlt (fun e => hr ?_)).trans hh, r⟩
    injection e with e
    simp [Value.ownBlock, e]
theorem own_rebase {w : World} {base base' : Nat} {e : TypeId} {size n : Nat} {v : Value} {xs : List Value} (h : w.ownsRow base e size v n xs) (hb : base' ≤ base) : w.ownsRow base' e size v n xs := by
  obtain ⟨h1, h2⟩ := h
  refine ⟨h1, ?_⟩
  rcases h2 with h2 | ⟨g, cap, cur, hv, hx, r⟩
  · exact .inl h2
  · exact .inr ⟨g, cap, cur, hv, by omega, r⟩
/-- What a call leaves that returns a draw of its own. -/
def DrPost (w : World) (d : Dr) (e : Ending) (w' : World) : Prop :=
  ∃ q : DV, e = .returned (.agg #[.int .i64 d.st, .slice q.a1 d.se.length q.c1, .slice q.a2 d.sd.length q.c2, .slice q.a3 d.sx.length q.c3, .slice q.a4 d.rv.length q.c4]) ∧ OwnD w' w.heap.size q d ∧ Below w.heap.size w w'

end Go.Proofs.Ytjmbdfoegnfpnaa
