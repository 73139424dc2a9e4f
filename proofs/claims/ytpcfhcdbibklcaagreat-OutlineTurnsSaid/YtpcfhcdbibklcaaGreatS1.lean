/- Contracts of the library that regions lean on, over rows of one's own and slices: slices.Sort and Compact of whole numbers. -/
import Derived.Test.YtpcfhcdbibklcaaGreatSh
import Derived.Test.YtpcfhcdbibklcaaGreatH1

import Derived.Lib.OwnBridge
import Derived.Sort.OwnSortedInts
namespace Go.Proofs.YtpcfhcdbibklcaaGreat
open Go.RowKit
set_option linter.unusedVariables false
set_option linter.unusedSimpArgs false

theorem sort_own {base : Nat} {v : Value} {l : List Int} (w : World) (h : w.ownsRow base 3 1 v l.length (l.map (.int .i64))) (hl : l.length < 4611686018427387904) :
    Calls Tryz.prog 51 #[v] w fun e w' => e = .returned (.tuple #[]) ∧ w'.ownsRow base 3 1 v l.length ((srt l).map (.int .i64)) ∧ w.grownBy w' v.ownBlock := by
  obtain ⟨h1, h2⟩ := h
  rcases h2 with ⟨rfl, h0⟩ | ⟨g, cap, cur, rfl, hb, hg, hc, hm, hs, ht⟩
  · have hnil : l = [] := List.length_eq_zero_iff.1 h0
    subst hnil
    refine (AnyM.slices_Sort_int_none Tryz.laySort none 0 w).mono ?_
    rintro e w' ⟨rfl, rfl⟩
    exact ⟨rfl, by rw [show srt [] = [] from List.length_eq_zero_iff.1 (srt_len [])]; exact World.ownsRow_nil _ _ _ _, World.grownBy.refl _ _⟩
  · have hlt : g < w.heap.size := by
      rcases Nat.lt_or_ge g w.heap.size with h | h
      · exact h
      · rw [Array.getElem?_eq_none h] at hg; cases hg
    have ht' : cur.toList.take l.length = l.map (Value.int .i64) := by rw [← ht, Nat.mul_one]
    refine (AnyM.slices_Sort_int Tryz.laySort g 0 cap l w (holds_of_blockI hg ht') hlt hl).mono ?_
    rintro e w' ⟨rfl, n, os, rfl⟩
    exact ⟨rfl, ownsRow_sortedI (srt_len l) hb hg hc hm hs, grownBy_sortedI _⟩

theorem compact_own {base : Nat} {v : Value} {l : List Int} (w : World) (h : w.ownsRow base 3 1 v l.length (l.map (.int .i64))) :
    Calls Tryz.prog 54 #[v] w fun e w' => ∃ v', e = .returned v' ∧ w'.ownsRow base 3 1 v' (Lib.compact l).length ((Lib.compact l).map (.int .i64)) ∧ w.grownBy w' v.ownBlock ∧ v'.ownBlock = v.ownBlock := by
  have h' := h
  obtain ⟨h1, h2⟩ := h
  rcases h2 with ⟨rfl, h0⟩ | ⟨g, cap, cur, rfl, hb, hg, hc, hm, hs, ht⟩
  · have hnil : l = [] := List.length_eq_zero_iff.1 h0
    subst hnil
    refine (AnyG.slices_Compact_int_empty Tryz.layCompact none 0 w).mono ?_
    rintro e w' ⟨rfl, rfl⟩
    exact ⟨_, rfl, World.ownsRow_nil _ _ _ _, World.grownBy.refl _ _, rfl⟩
  · have ht' : cur.toList.take l.length = l.map (Value.int .i64) := by rw [← ht, Nat.mul_one]
    have hcl : (Lib.compact l).length ≤ l.length := by
      unfold Lib.compact Lib.compactUpTo
      rw [List.length_map]
      have := List.length_filter_le (Lib.keeps l.toArray) (List.range l.length)
      simpa using this
    refine (AnyG.slices_Compact_int Tryz.layCompact g 0 cap l w (holds_of_blockI hg ht') (by unfold maxLen at hm; omega) hc).mono ?_
    rintro e w' ⟨rfl, q, rfl⟩
    have h3 := Lib.ownsRow_putRow (q := q) (ys := Lib.compact l ++ List.replicate (l.length - (Lib.compact l).length) 0) h' (by simp; omega) hcl
    rw [List.take_left] at h3
    refine ⟨_, rfl, h3, ⟨rfl, rfl, rfl, by simp [Sort.putRow, Sort.mapBlock, Sort.ahead], fun k hk hne => ?_⟩, rfl⟩
    have : g ≠ k := fun e => hne (by rw [← e]; rfl)
    simp [Sort.putRow, Sort.mapBlock, Sort.ahead, Array.getElem?_modify, this]
end Go.Proofs.YtpcfhcdbibklcaaGreat
