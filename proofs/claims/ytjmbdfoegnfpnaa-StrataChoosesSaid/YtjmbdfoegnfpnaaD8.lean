/- Rows of a draw of one's own, of which one cell changes. -/
import Derived.Test.YtjmbdfoegnfpnaaD5
namespace Go.Proofs.Ytjmbdfoegnfpnaa
open Go.RowKit
set_option linter.unusedVariables false
set_option linter.unusedSimpArgs false

theorem own_setN {w : World} {base : Nat} {e : TypeId} {size n g cap : Nat} {xs : List Value} (h : w.ownsRow base e size (.slice (some ⟨g, 0, none⟩) n cap) n xs) (k : Nat) (u : Value) : (w.setCell ⟨g, k, none⟩ u).ownsRow base e size (.slice (some ⟨g, 0, none⟩) n cap) n (xs.set k u) := by
  obtain ⟨h1, h2⟩ := h
  refine ⟨by rw [List.length_set]; exact h1, ?_⟩
  rcases h2 with ⟨h3, _⟩ | ⟨g', cap', cur, h3, hb, hg, hn, hc, hs, ht⟩
  · cases h3
  · cases h3
    have := heap_setCell_same w g k _ _ u hg
    refine .inr ⟨g, cap, _, rfl, hb, this, hn, hc, by simpa using hs, ?_⟩
    rw [← ht]
    simp [List.take_set]
/-- What lies in a row of one's own: where, and that it may be turned. -/
theorem own_at {w : World} {base : Nat} {e : TypeId} {size n : Nat} {v : Value} {xs : List Value} (h : w.ownsRow base e size v n xs) (hn : 0 < n) : ∃ g cap, v = .slice (some ⟨g, 0, none⟩) n cap ∧ base ≤ g ∧ g < w.heap.size ∧ n ≤ cap ∧ cap ≤ maxLen ∧ (∀ j u, xs[j]? = some u → w.cell? ⟨g, j, none⟩ = some u) ∧ ∀ j, w.frozen? ⟨g, j, none⟩ = false := by
  obtain ⟨h1, h2⟩ := h
  rcases h2 with ⟨rfl, rfl⟩ | ⟨g, cap, cur, rfl, hb, hg, hc, hm, hs, ht⟩
  · omega
  · have hlt : g < w.heap.size := by
      rcases Nat.lt_or_ge g w.heap.size with h | h
      · exact h
      · rw [Array.getElem?_eq_none h] at hg; cases hg
    refine ⟨g, cap, rfl, hb, hlt, hc, hm, fun j u hu => ?_, fun j => frozen_of_row w g j _ _ hg⟩
    have := World.ownsRow.cells (g := g) ⟨h1, .inr ⟨g, cap, cur, rfl, hb, hg, hc, hm, hs, ht⟩⟩ rfl j u hu
    rwa [add_none, Nat.zero_add] at this
theorem OwnD.drew {w : World} {base : Nat} {q : DV} {d : Dr} (h : OwnD w base q d) : OwnD w.drew base q d :=
  ⟨h.o1.drew, h.o2.drew, h.o3.drew, h.o4.drew, h.n12, h.n13, h.n14, h.n23, h.n24, h.n34⟩
/-- The state alone is another. -/
theorem OwnD.state {w : World} {base : Nat} {q : DV} {d : Dr} (h : OwnD w base q d) (s : Int) : OwnD w base q { d with st := s } :=
  ⟨h.o1, h.o2, h.o3, h.o4, h.n12, h.n13, h.n14, h.n23, h.n24, h.n34⟩
theorem OwnD.only {w w' : World} {base g : Nat} {q : DV} {d : Dr} (h : OwnD w base q d) (hg : w.grownBy w' (some g)) (h1 : (Value.slice q.a1 d.se.length q.c1).ownBlock ≠ some g) (h2 : (Value.slice q.a2 d.sd.length q.c2).ownBlock ≠ some g) (h3 : (Value.slice q.a3 d.sx.length q.c3).ownBlock ≠ some g) (h4 : (Value.slice q.a4 d.rv.length q.c4).ownBlock ≠ some g) : OwnD w' base q d :=
  ⟨own_only h.o1 hg h1, own_only h.o2 hg h2, own_only h.o3 hg h3, own_only h.o4 hg h4, h.n12, h.n13, h.n14, h.n23, h.n24, h.n34⟩
/-- A block that is older than the rows. -/
theorem OwnD.old {w w' : World} {base g : Nat} {q : DV} {d : Dr} (h : OwnD w base q d) (hg : w.grownBy w' (some g)) (hlt : g < base) : OwnD w' base q d :=
  h.only hg (fun e => by have := own_base h.o1 _ e; omega) (fun e => by have := own_base h.o2 _ e; omega) (fun e => by have := own_base h.o3 _ e; omega) (fun e => by have := own_base h.o4 _ e; omega)
/-- A block that is younger than the rows. -/
theorem OwnD.young {w0 w w' : World} {base g : Nat} {q : DV} {d : Dr} (h0 : OwnD w0 base q d) (hlt : w0.heap.size ≤ g) (h : OwnD w base q d) (hg : w.grownBy w' (some g)) : OwnD w' base q d :=
  h.only hg (fun e => by have := h0.o1.lt _ e; omega) (fun e => by have := h0.o2.lt _ e; omega) (fun e => by have := h0.o3.lt _ e; omega) (fun e => by have := h0.o4.lt _ e; omega)
theorem OwnD.rebase {w : World} {base base' : Nat} {q : DV} {d : Dr} (h : OwnD w base q d) (hb : base' ≤ base) : OwnD w base' q d :=
  ⟨own_rebase h.o1 hb, own_rebase h.o2 hb, own_rebase h.o3 hb, own_rebase h.o4 hb, h.n12, h.n13, h.n14, h.n23, h.n24, h.n34⟩
theorem OwnD.set1 {w : World} {base b : Nat} {q : DV} {d : Dr} (h : OwnD w base q d) (hq : q.a1 = some ⟨b, 0, none⟩) (k : Nat) (x : Int) : OwnD (w.setCell ⟨b, k, none⟩ ((Value.int .u64) x)) base q { d with se := d.se.set k x } := by
  have hg : w.grownBy (w.setCell ⟨b, k, none⟩ ((Value.int .u64) x)) (some b) := only_setCell (World.grownBy.refl _ _) (.inl rfl) _
  have hb : (Value.slice q.a1 d.se.length q.c1).ownBlock = some b := by rw [hq]; rfl
  have hne : ∀ v : Value, Apart (.slice q.a1 d.se.length q.c1) v → v.ownBlock ≠ some b := fun v ha => ha b hb
  refine ⟨?_, own_only h.o2 hg (hne _ (h.n12)), own_only h.o3 hg (hne _ (h.n13)), own_only h.o4 hg (hne _ (h.n14)), by simpa using h.n12, by simpa using h.n13, by simpa using h.n14, h.n23, h.n24, h.n34⟩
  have h0 := h.o1
  rw [hq] at h0 ⊢
  have := own_setN h0 k ((Value.int .u64) x)
  simpa [List.map_set] using this
theorem OwnD.set2 {w : World} {base b : Nat} {q : DV} {d : Dr} (h : OwnD w base q d) (hq : q.a2 = some ⟨b, 0, none⟩) (k : Nat) (x : Bool) : OwnD (w.setCell ⟨b, k, none⟩ (Value.bool x)) base q { d with sd := d.sd.set k x } := by
  have hg : w.grownBy (w.setCell ⟨b, k, none⟩ (Value.bool x)) (some b) := only_setCell (World.grownBy.refl _ _) (.inl rfl) _
  have hb : (Value.slice q.a2 d.sd.length q.c2).ownBlock = some b := by rw [hq]; rfl
  have hne : ∀ v : Value, Apart (.slice q.a2 d.sd.length q.c2) v → v.ownBlock ≠ some b := fun v ha => ha b hb
  refine ⟨own_only h.o1 hg (hne _ (h.n12.symm)), ?_, own_only h.o3 hg (hne _ (h.n23)), own_only h.o4 hg (hne _ (h.n24)), by simpa using h.n12, h.n13, h.n14, by simpa using h.n23, by simpa using h.n24, h.n34⟩
  have h0 := h.o2
  rw [hq] at h0 ⊢
  have := own_setN h0 k (Value.bool x)
  simpa [List.map_set] using this
theorem OwnD.set3 {w : World} {base b : Nat} {q : DV} {d : Dr} (h : OwnD w base q d) (hq : q.a3 = some ⟨b, 0, none⟩) (k : Nat) (x : Int) : OwnD (w.setCell ⟨b, k, none⟩ ((Value.int .u64) x)) base q { d with sx := d.sx.set k x } := by
  have hg : w.grownBy (w.setCell ⟨b, k, none⟩ ((Value.int .u64) x)) (some b) := only_setCell (World.grownBy.refl _ _) (.inl rfl) _
  have hb : (Value.slice q.a3 d.sx.length q.c3).ownBlock = some b := by rw [hq]; rfl
  have hne : ∀ v : Value, Apart (.slice q.a3 d.sx.length q.c3) v → v.ownBlock ≠ some b := fun v ha => ha b hb
  refine ⟨own_only h.o1 hg (hne _ (h.n13.symm)), own_only h.o2 hg (hne _ (h.n23.symm)), ?_, own_only h.o4 hg (hne _ (h.n34)), h.n12, by simpa using h.n13, h.n14, by simpa using h.n23, h.n24, by simpa using h.n34⟩
  have h0 := h.o3
  rw [hq] at h0 ⊢
  have := own_setN h0 k ((Value.int .u64) x)
  simpa [List.map_set] using this
theorem OwnD.set4 {w : World} {base b : Nat} {q : DV} {d : Dr} (h : OwnD w base q d) (hq : q.a4 = some ⟨b, 0, none⟩) (k : Nat) (x : Bool) : OwnD (w.setCell ⟨b, k, none⟩ (Value.bool x)) base q { d with rv := d.rv.set k x } := by
  have hg : w.grownBy (w.setCell ⟨b, k, none⟩ (Value.bool x)) (some b) := only_setCell (World.grownBy.refl _ _) (.inl rfl) _
  have hb : (Value.slice q.a4 d.rv.length q.c4).ownBlock = some b := by rw [hq]; rfl
  have hne : ∀ v : Value, Apart (.slice q.a4 d.rv.length q.c4) v → v.ownBlock ≠ some b := fun v ha => ha b hb
  refine ⟨own_only h.o1 hg (hne _ (h.n14.symm)), own_only h.o2 hg (hne _ (h.n24.symm)), own_only h.o3 hg (hne _ (h.n34.symm)), ?_, h.n12, h.n13, by simpa using h.n14, h.n23, by simpa using h.n24, by simpa using h.n34⟩
  have h0 := h.o4
  rw [hq] at h0 ⊢
  have := own_setN h0 k (Value.bool x)
  simpa [List.map_set] using this
end Go.Proofs.Ytjmbdfoegnfpnaa
