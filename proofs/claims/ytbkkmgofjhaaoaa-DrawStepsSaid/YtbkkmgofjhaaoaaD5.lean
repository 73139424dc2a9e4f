/- Contract: clone (draw). -/
import Derived.Test.YtbkkmgofjhaaoaaD3
import Derived.Test.YtbkkmgofjhaaoaaD4
namespace Go.Proofs.Ytbkkmgofjhaaoaa
open Go.RowKit
set_option linter.unusedVariables false
set_option linter.unusedSimpArgs false

def Apart (u v : Value) : Prop := ∀ k, u.ownBlock = some k → v.ownBlock ≠ some k
theorem Apart.symm {u v : Value} (h : Apart u v) : Apart v u := fun k h1 h2 => h k h2 h1
theorem Apart.of {u v : Value} {a b c e : Nat} (hu : ∀ k, u.ownBlock = some k → a ≤ k ∧ k < b) (hv : ∀ k, v.ownBlock = some k → c ≤ k ∧ k < e) (h : b ≤ c) : Apart u v := fun k h1 h2 => by
  have := hu k h1
  have := hv k h2
  omega
/-- A draw in rows of one's own. -/
structure OwnD (w : World) (base : Nat) (q : DV) (d : Dr) : Prop where
  o1 : w.ownsRow base 27 1 (.slice q.a1 d.se.length q.c1) d.se.length (d.se.map (.int .u64))
  o2 : w.ownsRow base 4 1 (.slice q.a2 d.sd.length q.c2) d.sd.length (d.sd.map .bool)
  o3 : w.ownsRow base 27 1 (.slice q.a3 d.sx.length q.c3) d.sx.length (d.sx.map (.int .u64))
  o4 : w.ownsRow base 4 1 (.slice q.a4 d.rv.length q.c4) d.rv.length (d.rv.map .bool)
  n12 : Apart (.slice q.a1 d.se.length q.c1) (.slice q.a2 d.sd.length q.c2)
  n13 : Apart (.slice q.a1 d.se.length q.c1) (.slice q.a3 d.sx.length q.c3)
  n14 : Apart (.slice q.a1 d.se.length q.c1) (.slice q.a4 d.rv.length q.c4)
  n23 : Apart (.slice q.a2 d.sd.length q.c2) (.slice q.a3 d.sx.length q.c3)
  n24 : Apart (.slice q.a2 d.sd.length q.c2) (.slice q.a4 d.rv.length q.c4)
  n34 : Apart (.slice q.a3 d.sx.length q.c3) (.slice q.a4 d.rv.length q.c4)
theorem OwnD.below {w w' : World} {base : Nat} {q : DV} {d : Dr} (h : OwnD w base q d) (hb : Below w.heap.size w w') : OwnD w' base q d :=
  ⟨ownsRow_below h.o1 hb, ownsRow_below h.o2 hb, ownsRow_below h.o3 hb, ownsRow_below h.o4 hb, h.n12, h.n13, h.n14, h.n23, h.n24, h.n34⟩
theorem Sl.of_own {w : World} {base : Nat} {e : TypeId} {A : Option Addr} {n c : Nat} {xs : List Value} (h : w.ownsRow base e 1 (.slice A n c) n xs) (hx : xs.length = n) : Sl w A c xs := by
  obtain ⟨A', c', e1, h1, h2, h3⟩ := own_slice h
  injection e1 with e1 _ e2
  subst e1 e2 hx
  exact ⟨h2, h3, h1⟩
theorem OwnD.at {w : World} {base : Nat} {q : DV} {d : Dr} (h : OwnD w base q d) : DrAt w q d :=
  ⟨Sl.of_own h.o1 (by simp), Sl.of_own h.o2 (by simp), Sl.of_own h.o3 (by simp), Sl.of_own h.o4 (by simp)⟩
/-- A draw with few parties. -/
def Dr.small (d : Dr) : Prop := d.se.length ≤ 1000000 ∧ d.sd.length ≤ 1000000 ∧ d.sx.length ≤ 1000000 ∧ d.rv.length ≤ 1000000
theorem box5 {w : World} {g : Nat} {t : TypeId} {a b c d e x y z u v : Value} (h : w.heap[g]? = some (.cells #[a, b, c, d, e] t (0, 0))) : (((((w.setCell ⟨g, 0, none⟩ x).setCell ⟨g, 1, none⟩ y).setCell ⟨g, 2, none⟩ z).setCell ⟨g, 3, none⟩ u).setCell ⟨g, 4, none⟩ v).heap[g]? = some (.cells #[x, y, z, u, v] t (0, 0)) := by
  have h1 := heap_setCell_same w g 0 _ _ x h
  have h2 := heap_setCell_same _ g 1 _ _ y h1
  have h3 := heap_setCell_same _ g 2 _ _ z h2
  have h4 := heap_setCell_same _ g 3 _ _ u h3
  have h5 := heap_setCell_same _ g 4 _ _ v h4
  rw [h5]
  simp
theorem box5_only {w : World} {g : Nat} {x y z u v : Value} : w.grownBy (((((w.setCell ⟨g, 0, none⟩ x).setCell ⟨g, 1, none⟩ y).setCell ⟨g, 2, none⟩ z).setCell ⟨g, 3, none⟩ u).setCell ⟨g, 4, none⟩ v) (some g) :=
  only_setCell (only_setCell (only_setCell (only_setCell (only_setCell (World.grownBy.refl _ (some g)) (.inl rfl) _) (.inl rfl) _) (.inl rfl) _) (.inl rfl) _) (.inl rfl) _
theorem box5_below {w0 w : World} {g B : Nat} {x y z u v : Value} (h : Below B w0 w) (hB : B ≤ g) : Below B w0 (((((w.setCell ⟨g, 0, none⟩ x).setCell ⟨g, 1, none⟩ y).setCell ⟨g, 2, none⟩ z).setCell ⟨g, 3, none⟩ u).setCell ⟨g, 4, none⟩ v) :=
  ((((h.setCell hB _).setCell hB _).setCell hB _).setCell hB _).setCell hB _
theorem own_only {w w' : World} {base : Nat} {e : TypeId} {size n : Nat} {v : Value} {xs : List Value} {g : Nat} (h : w.ownsRow base e size v n xs) (hg : w.grownBy w' (some g)) (hr : v.ownBlock ≠ some g) : w'.ownsRow base e size v n xs := by
  obtain ⟨h1, h2⟩ := h
  refine ⟨h1, ?_⟩
  rcases h2 with h2 | ⟨g', cap, cur, rfl, hb, hh, r⟩
  · exact .inl h2
  · have hlt : g' < w.heap.size := by
      rcases Nat.lt_or_ge g' w.heap.size with h | h
      · exact h
      · rw [Array.getElem?_eq_none h] at hh; cases hh
    refine .inr ⟨g', cap, cur, rfl, hb, (hg.block g' hlt (fun e => hr ?_)).trans hh, r⟩
    injection e with e
    simp [Value.ownBlock, e]
theorem own_rebase {w : World} {base base' : Nat} {e : TypeId} {size n : Nat} {v : Value} {xs : List Value} (h : w.ownsRow base e size v n xs) (hb : base' ≤ base) : w.ownsRow base' e size v n xs := by
  obtain ⟨h1, h2⟩ := h
  refine ⟨h1, ?_⟩
  rcases h2 with h2 | ⟨g, cap, cur, hv, hx, r⟩
  · exact .inl h2
  · exact .inr ⟨g, cap, cur, hv, by omega, r⟩
/-- What a call leaves that returns a draw of its own. -/
def DrPost (w : World) (d : Dr) (e : Ending) (w' : World) : Prop :=
  ∃ q : DV, e = .returned (.agg #[.int .i64 d.st, .slice q.a1 d.se.length q.c1, .slice q.a2 d.sd.length q.c2, .slice q.a3 d.sx.length q.c3, .slice q.a4 d.rv.length q.c4]) ∧ OwnD w' w.heap.size q d ∧ Below w.heap.size w w'

set_option maxHeartbeats 8000000 in
set_option maxRecDepth 100000 in
theorem clone_any (p : DV) (d : Dr) (w : World) (h : DrAt w p d) (hl : d.small) : Calls Try.prog 43 #[.agg #[.int .i64 d.st, .slice p.a1 d.se.length p.c1, .slice p.a2 d.sd.length p.c2, .slice p.a3 d.sx.length p.c3, .slice p.a4 d.rv.length p.c4]] w (DrPost w d) := by
  have H := Lib.hid h
  unfold Dr.small at hl
  clear h
  go_enter Try.func43, Try.ntmps43
  go_upto_region 1 with fail
  obtain ⟨w0, hw0⟩ : ∃ w0 : World, w0 = (w.alloc (.cells #[.int .i64 d.st, .slice p.a1 d.se.length p.c1, .slice p.a2 d.sd.length p.c2, .slice p.a3 d.sx.length p.c3, .slice p.a4 d.rv.length p.c4] 26)).alloc (.cells #[.int .i64 0, .slice none 0 0, .slice none 0 0, .slice none 0 0, .slice none 0 0] 26) := ⟨_, rfl⟩
  rw [← hw0]
  have hr0 : w0.heap[w.heap.size]? = some (.cells #[.int .i64 d.st, .slice p.a1 d.se.length p.c1, .slice p.a2 d.sd.length p.c2, .slice p.a3 d.sx.length p.c3, .slice p.a4 d.rv.length p.c4] 26 (0, 0)) := by rw [hw0]; exact (Below.heap_alloc _ _ _ (by simp)).trans (heap_alloc_new w _)
  have hz0 : w0.heap[w.heap.size + 1]? = some (.cells #[.int .i64 0, .slice none 0 0, .slice none 0 0, .slice none 0 0, .slice none 0 0] 26 (0, 0)) := by
    have := heap_alloc2_new w (.cells #[.int .i64 d.st, .slice p.a1 d.se.length p.c1, .slice p.a2 d.sd.length p.c2, .slice p.a3 d.sx.length p.c3, .slice p.a4 d.rv.length p.c4] 26) (.cells #[.int .i64 0, .slice none 0 0, .slice none 0 0, .slice none 0 0, .slice none 0 0] 26)
    rw [hw0]; exact this
  have c00 := cell_of_row w0 w.heap.size 0 _ _ _ hr0
  have c01 := cell_of_row w0 w.heap.size 1 _ _ _ hr0
  have c02 := cell_of_row w0 w.heap.size 2 _ _ _ hr0
  have c03 := cell_of_row w0 w.heap.size 3 _ _ _ hr0
  have c04 := cell_of_row w0 w.heap.size 4 _ _ _ hr0
  have hs0 : w0.heap.size = w.heap.size + 2 := by rw [hw0]; simp
  have Hb0 : Hid (Below w.heap.size w w0) := Lib.hid (by rw [hw0]; exact (by repeat' (first | with_reducible exact Below.refl _ _ | with_reducible refine below_drewN ?_ _ | with_reducible refine Below.drew ?_ | with_reducible refine Below.alloc ?_ ?_ _ | with_reducible refine Below.setCell ?_ ?_ _ | with_reducible refine Below.trans ?_ (Below.mono (by with_reducible assumption) ?_) | (simp; done) | (simp; omega) | omega)))
  clear hw0
  go_region_held3 (fun w' => w'.cell? ⟨w.heap.size, 0, none⟩ = some (.int .i64 d.st) ∧ w'.cell? ⟨w.heap.size, 1, none⟩ = some (.slice p.a1 d.se.length p.c1) ∧ w'.cell? ⟨w.heap.size, 2, none⟩ = some (.slice p.a2 d.sd.length p.c2) ∧ w'.cell? ⟨w.heap.size, 3, none⟩ = some (.slice p.a3 d.sx.length p.c3) ∧ w'.cell? ⟨w.heap.size, 4, none⟩ = some (.slice p.a4 d.rv.length p.c4))
    (first | go_keep | ((repeat' apply And.intro) <;> go_keep) | ((repeat' apply And.intro) <;> (repeat rw [World.cell?_setCell_other _ _ _ _ (by intro e; injection e; omega)]) <;> go_keep))
    (first
      | (go_at_call 57; refine (cloneU_any p.a1 p.c1 d.se _ (H.out.s1.below (Hb0.out.trans ((show Below w0.heap.size w0 _ from (by repeat' (first | with_reducible exact Below.refl _ _ | with_reducible refine below_drewN ?_ _ | with_reducible refine Below.drew ?_ | with_reducible refine Below.alloc ?_ ?_ _ | with_reducible refine Below.setCell ?_ ?_ _ | with_reducible refine Below.trans ?_ (Below.mono (by with_reducible assumption) ?_) | (simp; done) | (simp; omega) | omega))).mono (by omega)))) hl.1).mono ?_; rintro e w1 ⟨v1, rfl, hown1, hbn1⟩; rw [List.length_map] at hown1; obtain ⟨q1, e1, rfl, _, _, _⟩ := own_slice hown1; have hlt1 := hown1.lt; have hba1 := own_base hown1; have Hbn1 : Hid (Below w0.heap.size w0 w1) := Lib.hid (show Below w0.heap.size w0 w1 from (by have hbq := hbn1; exact (by repeat' (first | with_reducible exact Below.refl _ _ | with_reducible assumption | with_reducible refine below_drewN ?_ _ | with_reducible refine Below.drew ?_ | with_reducible refine Below.alloc ?_ ?_ _ | with_reducible refine Below.setCell ?_ ?_ _ | with_reducible refine Below.trans ?_ (Below.mono (by with_reducible assumption) ?_) | with_reducible refine below_only ?_ (by with_reducible assumption) ?_ ?_ | (simp; done) | (simp; omega) | omega)))); have Hb1 : Hid (Below w.heap.size w w1) := Lib.hid (Hb0.out.trans (Hbn1.out.mono (by omega))); have hs1 : w.heap.size ≤ w1.heap.size := Hb1.out.size; have hss1 := Hbn1.out.size; have Ho1 := Lib.hid hown1; have Hlt1 := Lib.hid hlt1; have Hba1 := Lib.hid hba1; have hr1 : w1.heap[w.heap.size]? = some (.cells #[.int .i64 d.st, .slice p.a1 d.se.length p.c1, .slice p.a2 d.sd.length p.c2, .slice p.a3 d.sx.length p.c3, .slice p.a4 d.rv.length p.c4] 26 (0, 0)) := (Hbn1.out.block _ (by omega)).trans hr0; have hz1 : w1.heap[w.heap.size + 1]? = some (.cells #[.int .i64 0, .slice none 0 0, .slice none 0 0, .slice none 0 0, .slice none 0 0] 26 (0, 0)) := (Hbn1.out.block _ (by omega)).trans hz0; have c10 := cell_of_row w1 w.heap.size 0 _ _ _ hr1; have c11 := cell_of_row w1 w.heap.size 1 _ _ _ hr1; have c12 := cell_of_row w1 w.heap.size 2 _ _ _ hr1; have c13 := cell_of_row w1 w.heap.size 3 _ _ _ hr1; have c14 := cell_of_row w1 w.heap.size 4 _ _ _ hr1; clear hown1 hbn1 hlt1 hba1)
      | (go_at_call 58; refine (cloneBo_any p.a2 p.c2 d.sd _ (H.out.s2.below (Hb1.out.trans ((show Below w1.heap.size w1 _ from (by repeat' (first | with_reducible exact Below.refl _ _ | with_reducible refine below_drewN ?_ _ | with_reducible refine Below.drew ?_ | with_reducible refine Below.alloc ?_ ?_ _ | with_reducible refine Below.setCell ?_ ?_ _ | with_reducible refine Below.trans ?_ (Below.mono (by with_reducible assumption) ?_) | (simp; done) | (simp; omega) | omega))).mono (by have := hs1; omega)))) hl.2.1).mono ?_; rintro e w2 ⟨v2, rfl, hown2, hbn2⟩; rw [List.length_map] at hown2; obtain ⟨q2, e2, rfl, _, _, _⟩ := own_slice hown2; have hlt2 := hown2.lt; have hba2 := own_base hown2; have Hbn2 : Hid (Below w1.heap.size w1 w2) := Lib.hid (show Below w1.heap.size w1 w2 from (by have hbq := hbn2; exact (by repeat' (first | with_reducible exact Below.refl _ _ | with_reducible assumption | with_reducible refine below_drewN ?_ _ | with_reducible refine Below.drew ?_ | with_reducible refine Below.alloc ?_ ?_ _ | with_reducible refine Below.setCell ?_ ?_ _ | with_reducible refine Below.trans ?_ (Below.mono (by with_reducible assumption) ?_) | with_reducible refine below_only ?_ (by with_reducible assumption) ?_ ?_ | (simp; done) | (simp; omega) | omega)))); have Hb2 : Hid (Below w.heap.size w w2) := Lib.hid (Hb1.out.trans (Hbn2.out.mono hs1)); have hs2 : w.heap.size ≤ w2.heap.size := Hb2.out.size; have hss2 := Hbn2.out.size; have Ho2 := Lib.hid hown2; have Hlt2 := Lib.hid hlt2; have Hba2 := Lib.hid hba2; have hr2 : w2.heap[w.heap.size]? = some (.cells #[.int .i64 d.st, .slice p.a1 d.se.length p.c1, .slice p.a2 d.sd.length p.c2, .slice p.a3 d.sx.length p.c3, .slice p.a4 d.rv.length p.c4] 26 (0, 0)) := (Hbn2.out.block _ (by omega)).trans hr1; have hz2 : w2.heap[w.heap.size + 1]? = some (.cells #[.int .i64 0, .slice none 0 0, .slice none 0 0, .slice none 0 0, .slice none 0 0] 26 (0, 0)) := (Hbn2.out.block _ (by omega)).trans hz1; have c20 := cell_of_row w2 w.heap.size 0 _ _ _ hr2; have c21 := cell_of_row w2 w.heap.size 1 _ _ _ hr2; have c22 := cell_of_row w2 w.heap.size 2 _ _ _ hr2; have c23 := cell_of_row w2 w.heap.size 3 _ _ _ hr2; have c24 := cell_of_row w2 w.heap.size 4 _ _ _ hr2; clear hown2 hbn2 hlt2 hba2)
      | (go_at_call 57; refine (cloneU_any p.a3 p.c3 d.sx _ (H.out.s3.below (Hb2.out.trans ((show Below w2.heap.size w2 _ from (by repeat' (first | with_reducible exact Below.refl _ _ | with_reducible refine below_drewN ?_ _ | with_reducible refine Below.drew ?_ | with_reducible refine Below.alloc ?_ ?_ _ | with_reducible refine Below.setCell ?_ ?_ _ | with_reducible refine Below.trans ?_ (Below.mono (by with_reducible assumption) ?_) | (simp; done) | (simp; omega) | omega))).mono (by have := hs2; omega)))) hl.2.2.1).mono ?_; rintro e w3 ⟨v3, rfl, hown3, hbn3⟩; rw [List.length_map] at hown3; obtain ⟨q3, e3, rfl, _, _, _⟩ := own_slice hown3; have hlt3 := hown3.lt; have hba3 := own_base hown3; have Hbn3 : Hid (Below w2.heap.size w2 w3) := Lib.hid (show Below w2.heap.size w2 w3 from (by have hbq := hbn3; exact (by repeat' (first | with_reducible exact Below.refl _ _ | with_reducible assumption | with_reducible refine below_drewN ?_ _ | with_reducible refine Below.drew ?_ | with_reducible refine Below.alloc ?_ ?_ _ | with_reducible refine Below.setCell ?_ ?_ _ | with_reducible refine Below.trans ?_ (Below.mono (by with_reducible assumption) ?_) | with_reducible refine below_only ?_ (by with_reducible assumption) ?_ ?_ | (simp; done) | (simp; omega) | omega)))); have Hb3 : Hid (Below w.heap.size w w3) := Lib.hid (Hb2.out.trans (Hbn3.out.mono hs2)); have hs3 : w.heap.size ≤ w3.heap.size := Hb3.out.size; have hss3 := Hbn3.out.size; have Ho3 := Lib.hid hown3; have Hlt3 := Lib.hid hlt3; have Hba3 := Lib.hid hba3; have hr3 : w3.heap[w.heap.size]? = some (.cells #[.int .i64 d.st, .slice p.a1 d.se.length p.c1, .slice p.a2 d.sd.length p.c2, .slice p.a3 d.sx.length p.c3, .slice p.a4 d.rv.length p.c4] 26 (0, 0)) := (Hbn3.out.block _ (by omega)).trans hr2; have hz3 : w3.heap[w.heap.size + 1]? = some (.cells #[.int .i64 0, .slice none 0 0, .slice none 0 0, .slice none 0 0, .slice none 0 0] 26 (0, 0)) := (Hbn3.out.block _ (by omega)).trans hz2; have c30 := cell_of_row w3 w.heap.size 0 _ _ _ hr3; have c31 := cell_of_row w3 w.heap.size 1 _ _ _ hr3; have c32 := cell_of_row w3 w.heap.size 2 _ _ _ hr3; have c33 := cell_of_row w3 w.heap.size 3 _ _ _ hr3; have c34 := cell_of_row w3 w.heap.size 4 _ _ _ hr3; clear hown3 hbn3 hlt3 hba3)
      | (go_at_call 58; refine (cloneBo_any p.a4 p.c4 d.rv _ (H.out.s4.below (Hb3.out.trans ((show Below w3.heap.size w3 _ from (by repeat' (first | with_reducible exact Below.refl _ _ | with_reducible refine below_drewN ?_ _ | with_reducible refine Below.drew ?_ | with_reducible refine Below.alloc ?_ ?_ _ | with_reducible refine Below.setCell ?_ ?_ _ | with_reducible refine Below.trans ?_ (Below.mono (by with_reducible assumption) ?_) | (simp; done) | (simp; omega) | omega))).mono (by have := hs3; omega)))) hl.2.2.2).mono ?_; rintro e w4 ⟨v4, rfl, hown4, hbn4⟩; rw [List.length_map] at hown4; obtain ⟨q4, e4, rfl, _, _, _⟩ := own_slice hown4; have hlt4 := hown4.lt; have hba4 := own_base hown4; have Hbn4 : Hid (Below w3.heap.size w3 w4) := Lib.hid (show Below w3.heap.size w3 w4 from (by have hbq := hbn4; exact (by repeat' (first | with_reducible exact Below.refl _ _ | with_reducible assumption | with_reducible refine below_drewN ?_ _ | with_reducible refine Below.drew ?_ | with_reducible refine Below.alloc ?_ ?_ _ | with_reducible refine Below.setCell ?_ ?_ _ | with_reducible refine Below.trans ?_ (Below.mono (by with_reducible assumption) ?_) | with_reducible refine below_only ?_ (by with_reducible assumption) ?_ ?_ | (simp; done) | (simp; omega) | omega)))); have Hb4 : Hid (Below w.heap.size w w4) := Lib.hid (Hb3.out.trans (Hbn4.out.mono hs3)); have hs4 : w.heap.size ≤ w4.heap.size := Hb4.out.size; have hss4 := Hbn4.out.size; have Ho4 := Lib.hid hown4; have Hlt4 := Lib.hid hlt4; have Hba4 := Lib.hid hba4; have hr4 : w4.heap[w.heap.size]? = some (.cells #[.int .i64 d.st, .slice p.a1 d.se.length p.c1, .slice p.a2 d.sd.length p.c2, .slice p.a3 d.sx.length p.c3, .slice p.a4 d.rv.length p.c4] 26 (0, 0)) := (Hbn4.out.block _ (by omega)).trans hr3; have hz4 : w4.heap[w.heap.size + 1]? = some (.cells #[.int .i64 0, .slice none 0 0, .slice none 0 0, .slice none 0 0, .slice none 0 0] 26 (0, 0)) := (Hbn4.out.block _ (by omega)).trans hz3; have c40 := cell_of_row w4 w.heap.size 0 _ _ _ hr4; have c41 := cell_of_row w4 w.heap.size 1 _ _ _ hr4; have c42 := cell_of_row w4 w.heap.size 2 _ _ _ hr4; have c43 := cell_of_row w4 w.heap.size 3 _ _ _ hr4; have c44 := cell_of_row w4 w.heap.size 4 _ _ _ hr4; have z0 := cell_of_row w4 (w.heap.size + 1) 0 _ _ _ hz4; have g0 := frozen_of_row w4 (w.heap.size + 1) 0 _ _ hz4; have z1 := cell_of_row w4 (w.heap.size + 1) 1 _ _ _ hz4; have g1 := frozen_of_row w4 (w.heap.size + 1) 1 _ _ hz4; have z2 := cell_of_row w4 (w.heap.size + 1) 2 _ _ _ hz4; have g2 := frozen_of_row w4 (w.heap.size + 1) 2 _ _ hz4; have z3 := cell_of_row w4 (w.heap.size + 1) 3 _ _ _ hz4; have g3 := frozen_of_row w4 (w.heap.size + 1) 3 _ _ hz4; have z4 := cell_of_row w4 (w.heap.size + 1) 4 _ _ _ hz4; have g4 := frozen_of_row w4 (w.heap.size + 1) 4 _ _ hz4; have Hz4 := Lib.hid hz4; clear hown4 hbn4 hlt4 hba4)
      | fail)
  all_goals go_wp2
  all_goals
    have hz5 := box5 (x := .int .i64 d.st) (y := .slice q1 d.se.length e1) (z := .slice q2 d.sd.length e2) (u := .slice q3 d.sx.length e3) (v := .slice q4 d.rv.length e4) Hz4.out
    have y0 := cell_of_row _ _ 0 _ _ _ hz5
    have y1 := cell_of_row _ _ 1 _ _ _ hz5
    have y2 := cell_of_row _ _ 2 _ _ _ hz5
    have y3 := cell_of_row _ _ 3 _ _ _ hz5
    have y4 := cell_of_row _ _ 4 _ _ _ hz5
    refine bodyPost_ret (v := .agg #[.int .i64 d.st, .slice q1 d.se.length e1, .slice q2 d.sd.length e2, .slice q3 d.sx.length e3, .slice q4 d.rv.length e4]) (by simp [results, Try.results43, go_sem, *]) rfl ?_
    have hd0 : w0.drew.heap.size = w0.heap.size := rfl
    have t1 := fun k hk => (Hba1.out k hk)
    have t2 := fun k hk => (Hba2.out k hk)
    have t3 := fun k hk => (Hba3.out k hk)
    have t4 := fun k hk => (Hba4.out k hk)
    have B2 := Hbn2.out
    have B3 := Hbn3.out
    have B4 := Hbn4.out
    have L1 := Hlt1.out
    have L2 := Hlt2.out
    have L3 := Hlt3.out
    have L4 := Hlt4.out
    refine ⟨⟨q1, e1, q2, e2, q3, e3, q4, e4⟩, rfl, ⟨?_, ?_, ?_, ?_, ?_, ?_, ?_, ?_, ?_, ?_⟩, box5_below Hb4.out (Nat.le_succ _)⟩
    · exact own_only (own_rebase (ownsRow_below (ownsRow_below (ownsRow_below Ho1.out B2) B3) B4) (by omega)) box5_only (fun e => by have := t1 _ e; omega)
    · exact own_only (own_rebase (ownsRow_below (ownsRow_below Ho2.out B3) B4) (by omega)) box5_only (fun e => by have := t2 _ e; omega)
    · exact own_only (own_rebase (ownsRow_below Ho3.out B4) (by omega)) box5_only (fun e => by have := t3 _ e; omega)
    · exact own_only (own_rebase Ho4.out (by omega)) box5_only (fun e => by have := t4 _ e; omega)
    · exact Apart.of L1 L2 (Nat.le_refl _)
    · exact Apart.of L1 L3 (by omega)
    · exact Apart.of L1 L4 (by omega)
    · exact Apart.of L2 L3 (Nat.le_refl _)
    · exact Apart.of L2 L4 (by omega)
    · exact Apart.of L3 L4 (Nat.le_refl _)
end Go.Proofs.Ytbkkmgofjhaaoaa
