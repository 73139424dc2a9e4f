/- Spans as cells; slices.SortFunc of spans by their beginnings; region's comparison. -/
import Derived.Test.YtpcfhcdbibklcaaGreatSh
import Derived.Test.YtpcfhcdbibklcaaGreatH1
import Derived.Lib.OwnBridge
import Derived.Sort.OwnSortedInts
namespace Go.Proofs.YtpcfhcdbibklcaaGreat
open Go.RowKit Go.Shelf Go.Lib Go.Sort
set_option linter.unusedVariables false
set_option linter.unusedSimpArgs false

/-- A span's cells. -/
def encSp (s : Sg Unit) : List Value := [.int .i64 s.1, .int .i64 s.2.1]
def sCells (l : List (Sg Unit)) : List Value := l.flatMap encSp
theorem sCells_len (l : List (Sg Unit)) : (sCells l).length = l.length * 2 := by
  induction l with
  | nil => rfl
  | cons o r ih => simp [sCells, encSp] at *; omega
theorem sCells_snoc (l : List (Sg Unit)) (s : Sg Unit) : sCells (l ++ [s]) = sCells l ++ [.int .i64 s.1, .int .i64 s.2.1] := by simp [sCells, encSp]
theorem sCells_at (l : List (Sg Unit)) (i : Nat) (h : i < l.length) : (sCells l)[i * 2]? = some (.int .i64 l[i].1) ∧ (sCells l)[i * 2 + 1]? = some (.int .i64 l[i].2.1) := by
  induction l generalizing i with
  | nil => simp at h
  | cons o r ih =>
    have hc : sCells (o :: r) = encSp o ++ sCells r := by simp [sCells]
    rw [hc]
    rcases i with _ | i
    · simp [encSp]
    · have := ih i (by simpa using h)
      have hl : (encSp o).length = 2 := rfl
      refine ⟨?_, ?_⟩ <;> (rw [List.getElem?_append_right (by rw [hl]; omega), hl])
      · rw [show (i + 1) * 2 - 2 = i * 2 from by omega]; exact this.1
      · rw [show (i + 1) * 2 + 1 - 2 = i * 2 + 1 from by omega]; exact this.2
instance : Inhabited (Sg Unit) := ⟨(0, 0, ())⟩
theorem flatK_sCells (l : List (Sg Unit)) : (Sort.flatK encSp 2 l.toArray).toList = sCells l := by
  apply List.ext_getElem?
  intro j
  by_cases hj : j < l.length * 2
  · have hi : j / 2 < l.length := by omega
    have h1 := sCells_at l (j / 2) hi
    have e : (Sort.flatK encSp 2 l.toArray).toList[j]? = some (encSp l[j / 2])[j % 2]! := by
      rw [Array.getElem?_toList]
      simp [Sort.flatK, hj, hi]
    rw [e]
    rcases Nat.mod_two_eq_zero_or_one j with h0 | h0
    · have e2 : j = j / 2 * 2 := by omega
      rw [h0]
      conv => rhs; rw [e2]
      rw [h1.1]; rfl
    · have e2 : j = j / 2 * 2 + 1 := by omega
      rw [h0]
      conv => rhs; rw [e2]
      rw [h1.2]; rfl
  · rw [List.getElem?_eq_none (by simp; omega), List.getElem?_eq_none (by rw [sCells_len]; omega)]

def cmpSp (x y : Sg Unit) : Int := Lib.compareInt x.1 y.1
theorem ltSp (x y : Sg Unit) : ltOf cmpSp x y = decide (x.1 < y.1) := by
  unfold ltOf cmpSp Lib.compareInt
  by_cases h1 : x.1 < y.1
  · simp [h1]
  · by_cases h2 : y.1 < x.1 <;> simp [h1, h2]
theorem swoSp : Sort.SWO (ltOf cmpSp) where
  irrefl x := by rw [ltSp]; simp
  trans x y z h1 h2 := by rw [ltSp] at *; simp at *; omega
  ntrans x y z h1 h2 := by rw [ltSp] at *; simp at *; omega

/-- region's comparison of spans: two blocks are laid. -/
theorem cmpSp_any (x y : Sg Unit) (W : World) : Calls Tryz.prog 95 #[.agg #[.int .i64 x.1, .int .i64 x.2.1], .agg #[.int .i64 y.1, .int .i64 y.2.1]] W fun e w' => e = .returned (.int .i64 (cmpSp x y)) ∧ ∃ q os', w' = Sort.grow (W.drewN q) os' := by
  have hcon := fun W' => AnyG.cmp_Compare_int Tryz.layCompare x.1 y.1 W'
  change ∀ W', Calls Tryz.prog 80 _ _ _ at hcon
  unfold cmpSp
  generalize Lib.compareInt x.1 y.1 = r at hcon ⊢
  go_enter Tryz.func95, Tryz.ntmps95
  go_wp2_with (go_at_call 80; refine (hcon _).mono ?_; rintro e w' ⟨rfl, rfl⟩)
  go_ret
  exact ⟨rfl, 0, _, by rw [alloc_eq_grow, alloc_eq_grow, grow_grow]; rfl⟩

theorem sortSpan_own {base : Nat} {v : Value} {l : List (Sg Unit)} (w : World) (h : w.ownsRow base 111 2 v l.length (sCells l)) (hl : l.length < 4611686018427387904) :
    Calls Tryz.prog 94 #[v, .func (.func 95) #[] #[]] w fun e w' => e = .returned (.tuple #[]) ∧ ∃ ss : List (Sg Unit), ss.Perm l ∧ ss.Pairwise (fun a b => a.1 ≤ b.1) ∧ w'.ownsRow base 111 2 v ss.length (sCells ss) ∧ w.grownBy w' v.ownBlock := by
  obtain ⟨h1, h2⟩ := h
  rcases h2 with ⟨rfl, h0⟩ | ⟨g, cap, cur, rfl, hb, hg, hc, hm, hs, ht⟩
  · have hnil : l = [] := List.length_eq_zero_iff.1 h0
    subst hnil
    refine (AnyF.slices_SortFunc_none Tryz.laySortFunc none 0 _ w).mono ?_
    rintro e w' ⟨rfl, rfl⟩
    exact ⟨rfl, [], List.Perm.refl _, List.Pairwise.nil, World.ownsRow_nil _ _ _ _, World.grownBy.refl _ _⟩
  · have hlt : g < w.heap.size := by
      rcases Nat.lt_or_ge g w.heap.size with h | h
      · exact h
      · rw [Array.getElem?_eq_none h] at hg; cases hg
    have eg : ∀ args w, (callFunc 95 args).run Tryz.prog w = .ok (.enter 95 args) w := enters_of Tryz.func95 (by kernel_rfl) rfl
    have hH : HoldsK encSp 2 w g 0 l.toArray := by
      intro j hj
      have hj' : j < l.length * 2 := by simpa using hj
      refine ⟨?_, by simp [World.frozen?, hg]⟩
      have e1 : (cur.toList.take (l.length * 2))[j]? = (sCells l)[j]? := by rw [ht]
      rw [List.getElem?_take, if_pos hj', Array.getElem?_toList, ← flatK_sCells, Array.getElem?_toList] at e1
      simp only [World.cell?, hg, Nat.zero_add]
      simp only [Option.isSome_none, Bool.false_eq_true, if_false]
      rw [e1]
      simp [getElem!_pos, hj']
    refine (AnyQ.slices_SortFunc Tryz.laySortFunc 2 Tryz.isAgg111 Tryz.sizeOf111 encSp (fun _ => rfl) (fun x v hv => by simp [encSp] at hv; rcases hv with rfl | rfl <;> rfl) cmpSp swoSp 95 #[] g 0 cap l.toArray w eg (fun _ _ _ _ x y => cmpSp_any x y _) hH hlt (by simpa using hl)).mono ?_
    rintro e w' ⟨rfl, d', n, os, ⟨hsz, _, hperm⟩, hso, rfl⟩
    have hsz' : d'.toList.length = l.length := by simpa using hsz
    have e1 : d'.extract 0 l.toArray.size = d' := by rw [← hsz]; exact Array.extract_size
    rw [e1, Array.extract_size] at hperm
    have hgr : w.grownBy (sortWorldK encSp 2 w g 0 n d' os) (some g) := by
      refine ⟨rfl, rfl, rfl, by simp [sortWorldK, putRowK, Sort.putRow, Sort.mapBlock, Sort.ahead, Sort.grow], fun k hk hne => ?_⟩
      unfold sortWorldK
      rw [heap_grow_old _ _ (by simpa [putRowK, Sort.putRow, Sort.mapBlock, Sort.ahead] using hk)]
      have : g ≠ k := fun e => hne (by rw [e])
      simp [putRowK, Sort.putRow, Sort.mapBlock, Sort.ahead, Array.getElem?_modify, this]
    refine ⟨rfl, d'.toList, by simpa using hperm, ?_, ?_, hgr⟩
    · rw [List.pairwise_iff_getElem]
      intro i j hi hj hij
      have hi' : i < d'.size := by simpa using hi
      have hj' : j < d'.size := by simpa using hj
      have := hso i j (Nat.zero_le _) hij (by rw [← hsz]; exact hj')
      rw [getElem!_pos d' j hj', getElem!_pos d' i hi', ltSp] at this
      simpa using this
    · rw [hsz']
      refine ⟨by rw [sCells_len, hsz'], .inr ⟨g, cap, putCells id 0 (flatK encSp 2 d') cur, rfl, hb, ?_, hc, hm, by simpa [putCells] using hs, ?_⟩⟩
      · unfold sortWorldK
        rw [heap_grow_old _ _ (by simpa [putRowK, Sort.putRow, Sort.mapBlock, Sort.ahead] using hlt)]
        simp [putRowK, Sort.putRow, Sort.mapBlock, Sort.ahead, Array.getElem?_modify, hg, onCells]
      · have ef : (flatK encSp 2 d').toList = sCells d'.toList := by have := flatK_sCells d'.toList; simpa using this
        rw [← ef]
        apply List.ext_getElem?
        intro j
        rw [List.getElem?_take, Array.getElem?_toList, Array.getElem?_toList]
        by_cases hj : j < l.length * 2
        · have hjc : j < cur.size := by rw [hs]; exact Nat.lt_of_lt_of_le hj (Nat.mul_le_mul_right 2 hc)
          have hsz2 : d'.size = l.length := by simpa using hsz
          simp only [if_pos hj, putCells, Array.getElem?_mapIdx, Array.getElem?_eq_getElem hjc, Option.map_some]
          rw [if_pos (by simp; omega)]
          simp [getElem!_pos, hsz2, hj]
        · have hsz2 : d'.size = l.length := by simpa using hsz
          rw [if_neg hj]
          rw [Array.getElem?_eq_none (by simp [hsz2]; omega)]
end Go.Proofs.YtpcfhcdbibklcaaGreat
