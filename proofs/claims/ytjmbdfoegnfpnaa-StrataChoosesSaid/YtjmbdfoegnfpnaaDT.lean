/- Contracts: slices.SortFunc of units by their tickets, slices.Sort of whole numbers, over rows of one's own (draw's Sample). -/
import Derived.Test.YtjmbdfoegnfpnaaDS
import Derived.Test.YtjmbdfoegnfpnaaD8
namespace Go.Proofs.Ytjmbdfoegnfpnaa
open Go.RowKit Go.Shelf Go.Lib Go.Sort
set_option linter.unusedVariables false
set_option linter.unusedSimpArgs false

def srt (l : List Int) : List Int := l.mergeSort fun x y => decide (x ≤ y)
theorem srt_len (l : List Int) : (srt l).length = l.length := (List.mergeSort_perm l _).length_eq
theorem sort_own {base : Nat} {v : Value} {l : List Int} (w : World) (h : w.ownsRow base 3 1 v l.length (l.map (.int .i64))) (hl : l.length < 4611686018427387904) :
    Calls Try.prog 60 #[v] w fun e w' => e = .returned (.tuple #[]) ∧ w'.ownsRow base 3 1 v l.length ((srt l).map (.int .i64)) ∧ w.grownBy w' v.ownBlock := by
  obtain ⟨h1, h2⟩ := h
  rcases h2 with ⟨rfl, h0⟩ | ⟨g, cap, cur, rfl, hb, hg, hc, hm, hs, ht⟩
  · have hnil : l = [] := List.length_eq_zero_iff.1 h0
    subst hnil
    refine (AnyM.slices_Sort_int_none Try.laySort none 0 w).mono ?_
    rintro e w' ⟨rfl, rfl⟩
    exact ⟨rfl, by rw [show srt [] = [] from List.length_eq_zero_iff.1 (srt_len [])]; exact World.ownsRow_nil _ _ _ _, World.grownBy.refl _ _⟩
  · have hlt : g < w.heap.size := by
      rcases Nat.lt_or_ge g w.heap.size with h | h
      · exact h
      · rw [Array.getElem?_eq_none h] at hg; cases hg
    have ht' : cur.toList.take l.length = l.map (Value.int .i64) := by rw [← ht, Nat.mul_one]
    refine (AnyM.slices_Sort_int Try.laySort g 0 cap l w (holds_of_blockI hg ht') hlt hl).mono ?_
    rintro e w' ⟨rfl, n, os, rfl⟩
    exact ⟨rfl, ownsRow_sortedI (srt_len l) hb hg hc hm hs, grownBy_sortedI _⟩

theorem cmpI_lt (a b : Int) : (Lib.compareInt a b < 0) ↔ a < b := by
  unfold Lib.compareInt
  by_cases h1 : a < b
  · simp [h1]
  · by_cases h2 : b < a <;> simp [h1, h2]
theorem cmpI_zero (a b : Int) : Lib.compareInt a b = 0 ↔ a = b := by
  unfold Lib.compareInt
  by_cases h1 : a < b
  · simp [h1]; omega
  · by_cases h2 : b < a
    · simp [h1, h2]; omega
    · simp [h1, h2]; omega
/-- Whether a unit stands before another one. -/
def beforeT (s a b : Int) : Bool := decide (tickI s a < tickI s b) || (decide (tickI s a = tickI s b) && decide (a < b))
theorem ltT (s a b : Int) : ltOf (cmpT s) a b = beforeT s a b := by
  unfold ltOf cmpT beforeT orI
  generalize tickI s a = x
  generalize tickI s b = y
  have h1 := cmpI_lt x y
  have h2 := cmpI_zero x y
  have h3 := cmpI_lt a b
  rw [Bool.eq_iff_iff]
  by_cases hxy : x = y
  · rw [if_pos (h2.2 hxy)]
    simp [hxy, h3]
  · rw [if_neg (fun h => hxy (h2.1 h))]
    simp [hxy, h1]
theorem beforeT_iff (s a b : Int) : beforeT s a b = true ↔ tickI s a < tickI s b ∨ (tickI s a = tickI s b ∧ a < b) := by simp [beforeT]
theorem beforeT_not (s a b : Int) : beforeT s a b = false ↔ tickI s b < tickI s a ∨ (tickI s a = tickI s b ∧ b ≤ a) := by
  rw [← Bool.not_eq_true, beforeT_iff]; omega
theorem swoT (s : Int) : Sort.SWO (ltOf (cmpT s)) where
  irrefl x := by rw [ltT, beforeT_not]; omega
  trans x y z h1 h2 := by rw [ltT, beforeT_iff] at *; omega
  ntrans x y z h1 h2 := by rw [ltT, beforeT_not] at *; omega

set_option maxHeartbeats 1000000 in
theorem sortT_own {base gs : Nat} {v : Value} {l : List Int} (s : Int) (t : TypeId) (w : World) (h : w.ownsRow base 3 1 v l.length (l.map (.int .i64))) (hl : l.length < 4611686018427387904) (hgs : w.heap[gs]? = some (.cells #[.int .u64 s] t (0, 0))) (hne : v.ownBlock ≠ some gs) :
    Calls Try.prog 54 #[v, .func (.func 55) #[] #[.pointer (some ⟨gs, 0, none⟩)]] w fun e w' => e = .returned (.tuple #[]) ∧ ∃ ss : List Int, ss.Perm l ∧ ss.Pairwise (fun a b => beforeT s b a = false) ∧ w'.ownsRow base 3 1 v ss.length (ss.map (.int .i64)) ∧ w.grownBy w' v.ownBlock := by
  obtain ⟨h1, h2⟩ := h
  rcases h2 with ⟨rfl, h0⟩ | ⟨g, cap, cur, rfl, hb, hg, hc, hm, hs, ht⟩
  · have hnil : l = [] := List.length_eq_zero_iff.1 h0
    subst hnil
    refine (AnyF.slices_SortFunc_none Try.laySortFunc0 none 0 _ w).mono ?_
    rintro e w' ⟨rfl, rfl⟩
    exact ⟨rfl, [], List.Perm.refl _, List.Pairwise.nil, World.ownsRow_nil _ _ _ _, World.grownBy.refl _ _⟩
  · have hlt : g < w.heap.size := by
      rcases Nat.lt_or_ge g w.heap.size with h | h
      · exact h
      · rw [Array.getElem?_eq_none h] at hg; cases hg
    have hgsl : gs < w.heap.size := by
      rcases Nat.lt_or_ge gs w.heap.size with h | h
      · exact h
      · rw [Array.getElem?_eq_none h] at hgs; cases hgs
    have hgg : g ≠ gs := fun e => hne (by simp [Value.ownBlock, e])
    have eg : ∀ args w, (callFunc 55 args).run Try.prog w = .ok (.enter 55 args) w := enters_of Try.func55 (by kernel_rfl) rfl
    have ht' : cur.toList.take l.length = l.map (Value.int .i64) := by rw [← ht, Nat.mul_one]
    have hH : Holds (Value.int .i64) w g 0 l.toArray := holds_of_blockI hg ht'
    have hcmp : CmpLays1 Try.prog 55 #[.pointer (some ⟨gs, 0, none⟩)] (Value.int .i64) (cmpT s) g 0 l.toArray.size w := by
      intro m os dk hd x y
      have hcell : (sortWorld (Value.int .i64) w g 0 m dk os).heap[gs]? = some (.cells #[.int .u64 s] t (0, 0)) := by
        unfold sortWorld
        rw [heap_grow_old _ _ (by simpa [Sort.putRow, Sort.mapBlock, Sort.ahead] using hgsl)]
        simp [Sort.putRow, Sort.mapBlock, Sort.ahead, Array.getElem?_modify, hgg, hgs]
      have hsz : gs < (sortWorld (Value.int .i64) w g 0 m dk os).heap.size := by
        rcases Nat.lt_or_ge gs (sortWorld (Value.int .i64) w g 0 m dk os).heap.size with h | h
        · exact h
        · rw [Array.getElem?_eq_none h] at hcell; cases hcell
      exact cmpT_any gs s x y _ (cell_of_row _ gs 0 _ _ _ hcell) hsz
    refine (Any.slices_SortFunc Try.laySortFunc (Value.int .i64) (fun _ => rfl) (cmpT s) (swoT s) 55 #[.pointer (some ⟨gs, 0, none⟩)] g 0 cap l.toArray w eg hcmp hH hlt (by simpa using hl)).mono ?_
    rintro e w' ⟨rfl, d', n, os, ⟨hsz, _, hperm⟩, hso, rfl⟩
    have hsz' : d'.toList.length = l.length := by simpa using hsz
    have e1 : d'.extract 0 l.toArray.size = d' := by rw [← hsz]; exact Array.extract_size
    rw [e1, Array.extract_size] at hperm
    have hgr : w.grownBy (sortWorld (Value.int .i64) w g 0 n d' os) (some g) := by
      refine ⟨rfl, rfl, rfl, by simp [sortWorld, Sort.putRow, Sort.mapBlock, Sort.ahead, Sort.grow], fun k hk hne => ?_⟩
      unfold sortWorld
      rw [heap_grow_old _ _ (by simpa [Sort.putRow, Sort.mapBlock, Sort.ahead] using hk)]
      have : g ≠ k := fun e => hne (by rw [e])
      simp [Sort.putRow, Sort.mapBlock, Sort.ahead, Array.getElem?_modify, this]
    refine ⟨rfl, d'.toList, by simpa using hperm, ?_, ?_, hgr⟩
    · rw [List.pairwise_iff_getElem]
      intro i j hi hj hij
      have hi' : i < d'.size := by simpa using hi
      have hj' : j < d'.size := by simpa using hj
      have := hso i j (Nat.zero_le _) hij (by rw [← hsz]; exact hj')
      rw [getElem!_pos d' j hj', getElem!_pos d' i hi', ltT] at this
      simpa using this
    · rw [hsz']
      refine ⟨by simp [hsz'], .inr ⟨g, cap, putCells (Value.int .i64) 0 d' cur, rfl, hb, ?_, hc, hm, by simpa [putCells] using hs, ?_⟩⟩
      · unfold sortWorld
        rw [heap_grow_old _ _ (by simpa [Sort.putRow, Sort.mapBlock, Sort.ahead] using hlt)]
        simp [Sort.putRow, Sort.mapBlock, Sort.ahead, Array.getElem?_modify, hg, onCells]
      · apply List.ext_getElem?
        intro j
        rw [List.getElem?_take, Array.getElem?_toList, List.getElem?_map, Array.getElem?_toList]
        have hsz2 : d'.size = l.length := by simpa using hsz
        by_cases hj : j < l.length * 1
        · have hjc : j < cur.size := by rw [hs]; exact Nat.lt_of_lt_of_le hj (Nat.mul_le_mul_right 1 hc)
          have hjd : j < d'.size := by omega
          simp only [if_pos hj, putCells, Array.getElem?_mapIdx, Array.getElem?_eq_getElem hjc, Array.getElem?_eq_getElem hjd, Option.map_some]
          rw [if_pos (by simp; omega)]
          simp [getElem!_pos, hjd]
        · rw [if_neg hj, Array.getElem?_eq_none (by omega)]
          rfl
end Go.Proofs.Ytjmbdfoegnfpnaa
