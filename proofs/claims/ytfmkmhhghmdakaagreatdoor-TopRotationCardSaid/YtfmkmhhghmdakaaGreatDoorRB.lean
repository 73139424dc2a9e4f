import Derived.Test.YtfmkmhhghmdakaaGreatDoorSh
import Derived.Lib.OwnBridge
import Derived.Sort.OwnSortedInts
import Derived.Test.YtfmkmhhghmdakaaGreatDoorRA
namespace Go.Proofs.YtfmkmhhghmdakaaGreatDoor
open Go.RowKit Go.Shelf Go.Lib Go.Sort
set_option linter.unusedVariables false
set_option linter.unusedSimpArgs false
set_option maxHeartbeats 64000000
set_option maxRecDepth 100000
def encSp (s : Sg Unit) : List Value := [.int .i64 s.1, .int .i64 s.2.1]
def sCells (l : List (Sg Unit)) : List Value := l.flatMap encSp
theorem sCells_len (l : List (Sg Unit)) : (sCells l).length = l.length * 2 := by
  induction l with
  | nil => rfl
  | cons o r ih => simp [sCells, encSp] at *; omega
theorem sCells_snoc (l : List (Sg Unit)) (s : Sg Unit) : sCells (l ++ [s]) = sCells l ++ [.int .i64 s.1, .int .i64 s.2.1] := by simp [sCells, encSp]
theorem sCells_at (l : List (Sg Unit)) (i : Nat) (h : i < l.length) : (sCells l)[i * 2]? = some (.int .i64 l[i].1) ∧ (sCells l)[i * 2 + 1]? = some (.int .i64 l[i].2.1) := by
  induction l generalizing i with
  | nil => simp at h
  | cons o r ih =>
    have hc : sCells (o :: r) = encSp o ++ sCells r := by simp [sCells]
    rw [hc]
    rcases i with _ | i
    · simp [encSp]
    · have := ih i (by simpa using h)
      have hl : (encSp o).length = 2 := rfl
      refine ⟨?_, ?_⟩ <;> (rw [List.getElem?_append_right (by rw [hl]; omega), hl])
      · rw [show (i + 1) * 2 - 2 = i * 2 from by omega]; exact this.1
      · rw [show (i + 1) * 2 + 1 - 2 = i * 2 + 1 from by omega]; exact this.2
instance : Inhabited (Sg Unit) := ⟨(0, 0, ())⟩
theorem flatK_sCells (l : List (Sg Unit)) : (Sort.flatK encSp 2 l.toArray).toList = sCells l := by
  apply List.ext_getElem?
  intro j
  by_cases hj : j < l.length * 2
  · have hi : j / 2 < l.length := by omega
    have h1 := sCells_at l (j / 2) hi
    have e : (Sort.flatK encSp 2 l.toArray).toList[j]? = some (encSp l[j / 2])[j % 2]! := by
      rw [Array.getElem?_toList]
      simp [Sort.flatK, hj, hi]
    rw [e]
    rcases Nat.mod_two_eq_zero_or_one j with h0 | h0
    · have e2 : j = j / 2 * 2 := by omega
      rw [h0]
      conv => rhs; rw [e2]
      rw [h1.1]; rfl
    · have e2 : j = j / 2 * 2 + 1 := by omega
      rw [h0]
      conv => rhs; rw [e2]
      rw [h1.2]; rfl
  · rw [List.getElem?_eq_none (by simp; omega), List.getElem?_eq_none (by rw [sCells_len]; omega)]
def cmpSp (x y : Sg Unit) : Int := Lib.compareInt x.1 y.1
theorem ltSp (x y : Sg Unit) : ltOf cmpSp x y = decide (x.1 < y.1) := by
  unfold ltOf cmpSp Lib.compareInt
  by_cases h1 : x.1 < y.1
  · simp [h1]
  · by_cases h2 : y.1 < x.1 <;> simp [h1, h2]
theorem swoSp : Sort.SWO (ltOf cmpSp) where
  irrefl x := by rw [ltSp]; simp
  trans x y z h1 h2 := by rw [ltSp] at *; simp at *; omega
  ntrans x y z h1 h2 := by rw [ltSp] at *; simp at *; omega
theorem cmpSp_any (x y : Sg Unit) (W : World) : Calls Tryz.prog 224 #[.agg #[.int .i64 x.1, .int .i64 x.2.1], .agg #[.int .i64 y.1, .int .i64 y.2.1]] W fun e w' => e = .returned (.int .i64 (cmpSp x y)) ∧ ∃ q os', w' = Sort.grow (W.drewN q) os' := by
  have hcon := fun W' => AnyG.cmp_Compare_int Tryz.layCompare x.1 y.1 W'
  change ∀ W', Calls Tryz.prog 171 _ _ _ at hcon
  unfold cmpSp
  generalize Lib.compareInt x.1 y.1 = r at hcon ⊢
  go_enter Tryz.func224, Tryz.ntmps224
  go_wp2_with (go_at_call 171; refine (hcon _).mono ?_; rintro e w' ⟨rfl, rfl⟩)
  go_ret
  exact ⟨rfl, 0, _, by rw [alloc_eq_grow, alloc_eq_grow, grow_grow]; rfl⟩
theorem sortSpan_own {base : Nat} {v : Value} {l : List (Sg Unit)} (w : World) (h : w.ownsRow base 256 2 v l.length (sCells l)) (hl : l.length < 4611686018427387904) :
    Calls Tryz.prog 223 #[v, .func (.func 224) #[] #[]] w fun e w' => e = .returned (.tuple #[]) ∧ ∃ ss : List (Sg Unit), ss.Perm l ∧ ss.Pairwise (fun a b => a.1 ≤ b.1) ∧ w'.ownsRow base 256 2 v ss.length (sCells ss) ∧ w.grownBy w' v.ownBlock := by
  obtain ⟨h1, h2⟩ := h
  rcases h2 with ⟨rfl, h0⟩ | ⟨g, cap, cur, rfl, hb, hg, hc, hm, hs, ht⟩
  · have hnil : l = [] := List.length_eq_zero_iff.1 h0
    subst hnil
    refine (AnyF.slices_SortFunc_none Tryz.laySortFunc none 0 _ w).mono ?_
    rintro e w' ⟨rfl, rfl⟩
    exact ⟨rfl, [], List.Perm.refl _, List.Pairwise.nil, World.ownsRow_nil _ _ _ _, World.grownBy.refl _ _⟩
  · have hlt : g < w.heap.size := by
      rcases Nat.lt_or_ge g w.heap.size with h | h
      · exact h
      · rw [Array.getElem?_eq_none h] at hg; cases hg
    have eg : ∀ args w, (callFunc 224 args).run Tryz.prog w = .ok (.enter 224 args) w := enters_of Tryz.func224 (by kernel_rfl) rfl
    have hH : HoldsK encSp 2 w g 0 l.toArray := by
      intro j hj
      have hj' : j < l.length * 2 := by simpa using hj
      refine ⟨?_, by simp [World.frozen?, hg]⟩
      have e1 : (cur.toList.take (l.length * 2))[j]? = (sCells l)[j]? := by rw [ht]
      rw [List.getElem?_take, if_pos hj', Array.getElem?_toList, ← flatK_sCells, Array.getElem?_toList] at e1
      simp only [World.cell?, hg, Nat.zero_add]
      simp only [Option.isSome_none, Bool.false_eq_true, if_false]
      rw [e1]
      simp [getElem!_pos, hj']
    refine (AnyQ.slices_SortFunc Tryz.laySortFunc 2 Tryz.isAgg256 Tryz.sizeOf256 encSp (fun _ => rfl) (fun x v hv => by simp [encSp] at hv; rcases hv with rfl | rfl <;> rfl) cmpSp swoSp 224 #[] g 0 cap l.toArray w eg (fun _ _ _ _ x y => cmpSp_any x y _) hH hlt (by simpa using hl)).mono ?_
    rintro e w' ⟨rfl, d', n, os, ⟨hsz, _, hperm⟩, hso, rfl⟩
    have hsz' : d'.toList.length = l.length := by simpa using hsz
    have e1 : d'.extract 0 l.toArray.size = d' := by rw [← hsz]; exact Array.extract_size
    rw [e1, Array.extract_size] at hperm
    have hgr : w.grownBy (sortWorldK encSp 2 w g 0 n d' os) (some g) := by
      refine ⟨rfl, rfl, rfl, by simp [sortWorldK, putRowK, Sort.putRow, Sort.mapBlock, Sort.ahead, Sort.grow], fun k hk hne => ?_⟩
      unfold sortWorldK
      rw [heap_grow_old _ _ (by simpa [putRowK, Sort.putRow, Sort.mapBlock, Sort.ahead] using hk)]
      have : g ≠ k := fun e => hne (by rw [e])
      simp [putRowK, Sort.putRow, Sort.mapBlock, Sort.ahead, Array.getElem?_modify, this]
    refine ⟨rfl, d'.toList, by simpa using hperm, ?_, ?_, hgr⟩
    · rw [List.pairwise_iff_getElem]
      intro i j hi hj hij
      have hi' : i < d'.size := by simpa using hi
      have hj' : j < d'.size := by simpa using hj
      have := hso i j (Nat.zero_le _) hij (by rw [← hsz]; exact hj')
      rw [getElem!_pos d' j hj', getElem!_pos d' i hi', ltSp] at this
      simpa using this
    · rw [hsz']
      refine ⟨by rw [sCells_len, hsz'], .inr ⟨g, cap, putCells id 0 (flatK encSp 2 d') cur, rfl, hb, ?_, hc, hm, by simpa [putCells] using hs, ?_⟩⟩
      · unfold sortWorldK
        rw [heap_grow_old _ _ (by simpa [putRowK, Sort.putRow, Sort.mapBlock, Sort.ahead] using hlt)]
        simp [putRowK, Sort.putRow, Sort.mapBlock, Sort.ahead, Array.getElem?_modify, hg, onCells]
      · have ef : (flatK encSp 2 d').toList = sCells d'.toList := by have := flatK_sCells d'.toList; simpa using this
        rw [← ef]
        apply List.ext_getElem?
        intro j
        rw [List.getElem?_take, Array.getElem?_toList, Array.getElem?_toList]
        by_cases hj : j < l.length * 2
        · have hjc : j < cur.size := by rw [hs]; exact Nat.lt_of_lt_of_le hj (Nat.mul_le_mul_right 2 hc)
          have hsz2 : d'.size = l.length := by simpa using hsz
          simp only [if_pos hj, putCells, Array.getElem?_mapIdx, Array.getElem?_eq_getElem hjc, Option.map_some]
          rw [if_pos (by simp; omega)]
          simp [getElem!_pos, hsz2, hj]
        · have hsz2 : d'.size = l.length := by simpa using hsz
          rw [if_neg hj]
          rw [Array.getElem?_eq_none (by simp [hsz2]; omega)]
end Go.Proofs.YtfmkmhhghmdakaaGreatDoor
namespace Go.Proofs.YtfmkmhhghmdakaaGreatDoor
open Go.RowKit
set_option linter.unusedVariables false
set_option linter.unusedSimpArgs false
set_option maxHeartbeats 64000000
set_option maxRecDepth 100000
theorem own_setN {w : World} {base : Nat} {e : TypeId} {size n g cap : Nat} {xs : List Value} (h : w.ownsRow base e size (.slice (some ⟨g, 0, none⟩) n cap) n xs) (k : Nat) (u : Value) : (w.setCell ⟨g, k, none⟩ u).ownsRow base e size (.slice (some ⟨g, 0, none⟩) n cap) n (xs.set k u) := by
  obtain ⟨h1, h2⟩ := h
  refine ⟨by rw [List.length_set]; exact h1, ?_⟩
  rcases h2 with ⟨h3, _⟩ | ⟨g', cap', cur, h3, hb, hg, hn, hc, hs, ht⟩
  · cases h3
  · cases h3
    have := heap_setCell_same w g k _ _ u hg
    refine .inr ⟨g, cap, _, rfl, hb, this, hn, hc, by simpa using hs, ?_⟩
    rw [← ht]
    simp [List.take_set]
structure SlP (w : World) (v : Value) (l : List Int) : Prop where
  sl : ∃ A c, v = .slice A l.length c ∧ SlI w A l.length c l ∧ (l = [] → A = none ∧ c = 0)
theorem SlP.below {w w' : World} {v : Value} {l : List Int} (h : SlP w v l) (hb : Below w.heap.size w w') : SlP w' v l := by
  obtain ⟨A, c, h1, h2, h3⟩ := h
  exact ⟨A, c, h1, h2.below hb, h3⟩
def PutLeft (w : World) (l : List Int) (e : Ending) (w' : World) : Prop := ∃ v, e = .returned v ∧ SlP w' v l ∧ Below w.heap.size w w'
theorem put_slp (v : Value) (l : List Int) (x : Int) (w : World) (h : SlP w v l) (hb : l.length ≤ 1000000) :
    Calls Tryz.prog 23 #[v, .int .i64 x] w (PutLeft w (putL l x)) := by
  obtain ⟨A, c, rfl, h2, h3⟩ := h
  refine (put_any A l.length c l x w h2 hb (fun h => h3 (List.length_eq_zero_iff.1 h))).mono ?_
  rintro e w' ⟨A', n', c', rfl, h4, h5⟩
  have hn := h4.len
  subst hn
  exact ⟨_, rfl, ⟨A', c', rfl, h4, fun h => absurd h (putL_ne l x)⟩, h5⟩
theorem rCells_split (l : List R4) (i : Nat) (h : i < l.length) : ∃ p q, rCells l = p ++ [.int .i64 l[i].l, .int .i64 l[i].b, .int .i64 l[i].r, .int .i64 l[i].t] ++ q ∧ p.length = i * 4 ∧ ∀ z : R4, rCells (l.set i z) = p ++ [.int .i64 z.l, .int .i64 z.b, .int .i64 z.r, .int .i64 z.t] ++ q := by
  refine ⟨rCells (l.take i), rCells (l.drop (i + 1)), ?_, by rw [rCells_len, List.length_take]; omega, fun z => ?_⟩
  · have e1 := rCells_app (l.take i) (l.drop i)
    rw [List.take_append_drop, List.drop_eq_getElem_cons h, show rCells (l[i] :: l.drop (i + 1)) = l[i].cells ++ rCells (l.drop (i + 1)) from by rw [rCells, List.flatMap_cons]; rfl] at e1
    rw [e1, List.append_assoc]
    rfl
  · rw [List.set_eq_take_append_cons_drop, if_pos h]
    simp [rCells, R4.cells]
theorem rCells_setR (l : List R4) (i : Nat) (h : i < l.length) (x : Int) : rCells (l.set i ⟨l[i].l, l[i].b, x, l[i].t⟩) = (rCells l).set (i * 4 + 2) (.int .i64 x) := by
  obtain ⟨p, q, e1, e2, e3⟩ := rCells_split l i h
  rw [e3, e1, ← e2]
  simp [List.set_append]
theorem rCells_setT (l : List R4) (i : Nat) (h : i < l.length) (x : Int) : rCells (l.set i ⟨l[i].l, l[i].b, l[i].r, x⟩) = (rCells l).set (i * 4 + 3) (.int .i64 x) := by
  obtain ⟨p, q, e1, e2, e3⟩ := rCells_split l i h
  rw [e3, e1, ← e2]
  simp [List.set_append]
theorem own_at {w : World} {base : Nat} {e : TypeId} {size n : Nat} {v : Value} {xs : List Value} (h : w.ownsRow base e size v n xs) (hn : 0 < n) : ∃ g cap, v = .slice (some ⟨g, 0, none⟩) n cap ∧ base ≤ g ∧ g < w.heap.size ∧ n ≤ cap ∧ cap ≤ maxLen ∧ (∀ j u, xs[j]? = some u → w.cell? ⟨g, j, none⟩ = some u) ∧ ∀ j, w.frozen? ⟨g, j, none⟩ = false := by
  obtain ⟨h1, h2⟩ := h
  rcases h2 with ⟨rfl, rfl⟩ | ⟨g, cap, cur, rfl, hb, hg, hc, hm, hs, ht⟩
  · omega
  · have hlt : g < w.heap.size := by
      rcases Nat.lt_or_ge g w.heap.size with h | h
      · exact h
      · rw [Array.getElem?_eq_none h] at hg; cases hg
    refine ⟨g, cap, rfl, hb, hlt, hc, hm, fun j u hu => ?_, fun j => frozen_of_row w g j _ _ hg⟩
    have := World.ownsRow.cells (g := g) ⟨h1, .inr ⟨g, cap, cur, rfl, hb, hg, hc, hm, hs, ht⟩⟩ rfl j u hu
    rwa [add_none, Nat.zero_add] at this
theorem own_other {w w' : World} {base : Nat} {e : TypeId} {size n : Nat} {v : Value} {xs : List Value} {row : Option Nat} (h : w.ownsRow base e size v n xs) (hg : w.grownBy w' row) (hr : ∀ k, v.ownBlock = some k → row ≠ some k) : w'.ownsRow base e size v n xs := by
  obtain ⟨h1, h2⟩ := h
  refine ⟨h1, ?_⟩
  rcases h2 with h2 | ⟨g, cap, cur, rfl, hb, hh, r⟩
  · exact .inl h2
  · have hlt : g < w.heap.size := by
      rcases Nat.lt_or_ge g w.heap.size with h | h
      · exact h
      · rw [Array.getElem?_eq_none h] at hh; cases hh
    exact .inr ⟨g, cap, cur, rfl, hb, (hg.block g hlt (fun e => hr g rfl e.symm)).trans hh, r⟩
theorem list_snoc {α : Type} (l : List α) : l = [] ∨ ∃ l0 a, l = l0 ++ [a] := by
  rcases List.eq_nil_or_concat l with h | ⟨l0, a, h⟩
  · exact .inl h
  · exact .inr ⟨l0, a, by rw [h, List.concat_eq_append]⟩
theorem own_rebase {w : World} {base base' : Nat} {e : TypeId} {size n : Nat} {v : Value} {xs : List Value} (h : w.ownsRow base e size v n xs) (hb : base' ≤ base) : w.ownsRow base' e size v n xs := by
  obtain ⟨h1, h2⟩ := h
  refine ⟨h1, ?_⟩
  rcases h2 with h2 | ⟨g, cap, cur, hv, hx, r⟩
  · exact .inl h2
  · exact .inr ⟨g, cap, cur, hv, Nat.le_trans hb hx, r⟩
def upR (z : Int) (t : Nat) (l : List R4) : List R4 := ((l.take t).map fun q => ⟨q.l, q.b, q.r, z⟩) ++ l.drop t
theorem upR_len (z : Int) (t : Nat) (l : List R4) : (upR z t l).length = l.length := by simp [upR]; omega
theorem upR_at (z : Int) (t : Nat) (l : List R4) (h : t < l.length) : (upR z t l)[t]? = some l[t] := by
  unfold upR
  rw [List.getElem?_append_right (by simp; omega)]
  simp [h, show t - min t l.length = 0 by omega]
theorem upR_step (z : Int) (t : Nat) (l : List R4) (h : t < l.length) : (rCells (upR z t l)).set (t * 4 + 3) (.int .i64 z) = rCells (upR z (t + 1) l) := by
  have hl : t < (upR z t l).length := by rw [upR_len]; exact h
  have ha := upR_at z t l h
  rw [List.getElem?_eq_getElem hl] at ha
  have ha := Option.some.inj ha
  rw [← rCells_setT (upR z t l) t hl z, ha]
  congr 1
  unfold upR
  rw [List.set_append_right _ _ (by simp; omega), List.length_map, List.length_take, show t - min t l.length = 0 by omega, List.drop_eq_getElem_cons h, List.set_cons_zero, List.take_succ_eq_append_getElem h]
  simp only [List.map_append, List.map_cons, List.map_nil, List.append_assoc, List.cons_append, List.nil_append]
theorem upR_end (z : Int) (t : Nat) (l : List R4) (h : l.length ≤ t) : upR z t l = l.map fun q => ⟨q.l, q.b, q.r, z⟩ := by
  unfold upR
  rw [List.take_of_length_le h, List.drop_eq_nil_of_le h, List.append_nil]
def ab (a b : List R4) (i : Nat) : List R4 := if i = 0 then a else b
def done (a b : List R4) (i : Nat) : List R4 := if i = 0 then [] else if i = 1 then a else a ++ b
theorem cells4 {w w' : World} {g B : Nat} {x0 x1 x2 x3 : Value} {t : TypeId} (h : w.heap[g]? = some (.cells #[x0, x1, x2, x3] t (0, 0))) (hb : Below B w w') (hg : g < B) :
    w'.cell? ⟨g, 0, none⟩ = some x0 ∧ w'.cell? ⟨g, 1, none⟩ = some x1 ∧ w'.cell? ⟨g, 2, none⟩ = some x2 ∧ w'.cell? ⟨g, 3, none⟩ = some x3 := by
  have h1 := (hb.block g hg).trans h
  exact ⟨cell_of_row w' g 0 _ _ _ h1, cell_of_row w' g 1 _ _ _ h1, cell_of_row w' g 2 _ _ _ h1, cell_of_row w' g 3 _ _ _ h1⟩
theorem combineR_any (A B : Option Addr) (n c m d : Nat) (a b : List R4) (k : Int) (w : World) (hA : SlR w A n c a) (hB : SlR w B m d b) (hs : n + m ≤ 100000) :
    Calls Tryz.prog 46 #[.slice A n c, .slice B m d, .int .i64 k] w fun e w' => ∃ v, e = .returned v ∧ w'.ownsRow w.heap.size 68 4 v (combP (howR k) a b).length (rCells (combP (howR k) a b)) ∧ Below w.heap.size w w' := by
  obtain ⟨i0, hi, hz0, hz1, hz2⟩ := info_parts Tryz.infoRect
  have HA := Lib.hid hA
  have HB := Lib.hid hB
  have hn := hA.len
  have hm := hB.len
  clear hA hB
  go_enter Tryz.func46, Tryz.ntmps46
  go_upto_region 3 with fail
  obtain ⟨wa, hwa⟩ : ∃ wa : World, wa = w.alloc (.cells #[.slice A n c, .slice B m d] 31) := ⟨_, rfl⟩
  rw [← hwa]
  have hab : ∀ i, i < 2 → ∃ (C : Option Addr) (p q : Nat), wa.cell? ⟨w.heap.size, i, none⟩ = some (.slice C p q) ∧ SlR wa C p q (ab a b i) := by
    intro i hi
    have h0 : wa.heap[w.heap.size]? = some (.cells #[.slice A n c, .slice B m d] 31 (0, 0)) := by rw [hwa]; exact heap_alloc_new w _
    rcases (show i = 0 ∨ i = 1 by omega) with rfl | rfl
    · exact ⟨A, n, c, cell_of_row wa _ 0 _ _ _ h0, by rw [hwa]; exact HA.out.alloc _⟩
    · exact ⟨B, m, d, cell_of_row wa _ 1 _ _ _ h0, by rw [hwa]; exact HB.out.alloc _⟩
  have Hab := Lib.hid hab
  have hsa : w.heap.size < wa.heap.size := by rw [hwa]; simp
  have Hwa : Hid (Below w.heap.size w wa) := Lib.hid (by rw [hwa]; exact gBel)
  clear hwa hab
  go_loopw [7, 8, 10, 24] (fun x y _ i wr => ∃ j : Nat, j ≤ 2 ∧ i = .int .i64 (j : Int) ∧ Below wa.heap.size wa wr ∧ SlP wr x (xsOf (done a b j)) ∧ SlP wr y (ysOf (done a b j))) (fun _ _ _ i _ => 2 - (intOf i).toNat)
  case atStart => exact ⟨0, by omega, rfl, Below.refl _ _, ⟨none, 0, rfl, SlI.nil _, fun _ => ⟨rfl, rfl⟩⟩, ⟨none, 0, rfl, SlI.nil _, fun _ => ⟨rfl, rfl⟩⟩⟩
  case round =>
    obtain ⟨wo, rfl⟩ : ∃ wo : World, wo = wr := ⟨_, rfl⟩
    obtain ⟨j, hj, rfl, hbo, hx, hy⟩ := hrel
    have hso := hbo.size
    have Hbo := Lib.hid hbo
    have HX := Lib.hid hx
    have HY := Lib.hid hy
    clear hx hy
    by_cases hj2 : j < 2
    · obtain ⟨C, p, q, hc0, hC⟩ := Hab.out j hj2
      have c0 := (hbo.cell (p := ⟨w.heap.size, j, none⟩) hsa).trans hc0
      have HC := Lib.hid (hC.below hbo)
      have hpl := hC.len
      have hdl : Hid ((done a b j).length + (ab a b j).length ≤ 100000) := Lib.hid (by
        rcases (show j = 0 ∨ j = 1 by omega) with rfl | rfl
        · simp [done, ab]; omega
        · simp [done, ab]; omega)
      have Hnext : Hid (done a b (j + 1) = done a b j ++ ab a b j) := Lib.hid (by
        rcases (show j = 0 ∨ j = 1 by omega) with rfl | rfl
        · simp [done, ab]
        · simp [done, ab])
      generalize done a b j = dn at *
      generalize ab a b j = l at *
      have hj2' : (j : Int) < 2 := by omega
      clear hbo hc0 hC
      go_upto_region 6 with fail
      go_loopw [7, 8, 12, 30] (fun x y _ i wr => ∃ kk : Nat, kk ≤ p ∧ i = .int .i64 (kk : Int) ∧ Below wo.heap.size wo wr ∧ SlP wr x (xsOf (dn ++ l.take kk)) ∧ SlP wr y (ysOf (dn ++ l.take kk))) (fun _ _ _ i _ => p - (intOf i).toNat)
      case atStart => exact ⟨0, Nat.zero_le _, rfl, Below.refl _ _, by simpa using HX.out, by simpa using HY.out⟩
      case round =>
        obtain ⟨kk, hkk, rfl, hbr, hx, hy⟩ := hrel
        have hsr := hbr.size
        have HX2 := Lib.hid hx
        have HY2 := Lib.hid hy
        have Hbr := Lib.hid hbr
        clear hx hy
        by_cases hkp : kk < p
        · have hl : kk < l.length := by omega
          obtain ⟨bb, off, rfl, hbl, c1, c2, c3, c4⟩ := (HC.out.below hbr).at kk hl
          have Hxn : Hid (xsOf (dn ++ l.take (kk + 1)) = putL (putL (xsOf (dn ++ l.take kk)) l[kk].l) l[kk].r) := Lib.hid (by rw [List.take_succ_eq_append_getElem hl, ← List.append_assoc, xsOf_snoc])
          have Hyn : Hid (ysOf (dn ++ l.take (kk + 1)) = putL (putL (ysOf (dn ++ l.take kk)) l[kk].b) l[kk].t) := Lib.hid (by rw [List.take_succ_eq_append_getElem hl, ← List.append_assoc, ysOf_snoc])
          have hxl := xsOf_len (dn ++ l.take kk)
          have hyl := ysOf_len (dn ++ l.take kk)
          have hdl2 : (dn ++ l.take kk).length ≤ 100000 := by have := hdl.out; simp; omega
          have hkp' : (kk : Int) < (p : Int) := by omega
          have hp1 : p ≤ 100000 := by have := hdl.out; omega
          generalize l[kk] = r4 at *
          generalize xsOf (dn ++ l.take kk) = xs at *
          generalize ysOf (dn ++ l.take kk) = ys at *
          generalize (dn ++ l.take kk).length = dlen at *
          have hx1 := putL_len xs r4.l
          have hy1 := putL_len ys r4.b
          clear hbr
          go_upto_region 8 with fail
          obtain ⟨wb, hwb⟩ : ∃ wb : World, wb = wr.alloc (.cells #[.int .i64 r4.l, .int .i64 r4.b, .int .i64 r4.r, .int .i64 r4.t] 68) := ⟨_, rfl⟩
          rw [← hwb]
          have hq : wb.heap[wr.heap.size]? = some (.cells #[.int .i64 r4.l, .int .i64 r4.b, .int .i64 r4.r, .int .i64 r4.t] 68 (0, 0)) := by rw [hwb]; exact heap_alloc_new wr _
          have q0 : wb.cell? ⟨wr.heap.size, 0, none⟩ = some (.int .i64 r4.l) := cell_of_row wb _ 0 _ _ _ hq
          have q1 : wb.cell? ⟨wr.heap.size, 1, none⟩ = some (.int .i64 r4.b) := cell_of_row wb _ 1 _ _ _ hq
          have q2 : wb.cell? ⟨wr.heap.size, 2, none⟩ = some (.int .i64 r4.r) := cell_of_row wb _ 2 _ _ _ hq
          have q3 : wb.cell? ⟨wr.heap.size, 3, none⟩ = some (.int .i64 r4.t) := cell_of_row wb _ 3 _ _ _ hq
          have hsb : wr.heap.size < wb.heap.size := by rw [hwb]; simp
          have Hbb : Hid (Below wr.heap.size wr wb) := Lib.hid (by rw [hwb]; exact gBel)
          have HX3 : Hid (SlP wb u7 xs) := Lib.hid (HX2.out.below Hbb.out)
          have HY3 : Hid (SlP wb u8 ys) := Lib.hid (HY2.out.below Hbb.out)
          have Hq := Lib.hid hq
          clear hwb hq c0 c1 c2 c3 c4
          go_region_held3 (fun w' => w'.cell? ⟨wr.heap.size, 0, none⟩ = some (.int .i64 r4.l) ∧ w'.cell? ⟨wr.heap.size, 1, none⟩ = some (.int .i64 r4.b) ∧ w'.cell? ⟨wr.heap.size, 2, none⟩ = some (.int .i64 r4.r) ∧ w'.cell? ⟨wr.heap.size, 3, none⟩ = some (.int .i64 r4.t))
            (first | go_keep | ((repeat' apply And.intro) <;> go_keep))
            (first
              | (go_at_call_of 23 u7; refine (put_slp u7 (xs) r4.l _ (HX3.out.below (by exact gBelo)) (by omega)).mono ?_; rintro e w1 ⟨v1, rfl, hv1, hb1⟩; have Hv1 := Lib.hid hv1; have Hk1 : Hid (Below wb.heap.size wb w1) := Lib.hid (show Below wb.heap.size wb w1 from (by have hbq := hb1; exact gBelo)); have Hs1 : Hid (wb.heap.size ≤ w1.heap.size) := Hk1.out.size; obtain ⟨p01, p11, p21, p31⟩ := cells4 Hq.out Hk1.out hsb; clear hv1 hb1)
              | (go_at_call_of 23 v1; refine (put_slp v1 (putL xs r4.l) r4.r _ (Hv1.out) (by omega)).mono ?_; rintro e w2 ⟨v2, rfl, hv2, hb2⟩; have Hv2 := Lib.hid hv2; have Hk2 : Hid (Below wb.heap.size wb w2) := Lib.hid (show Below wb.heap.size wb w2 from (by have hbq := hb2; have hp := Hk1.out; have hs := Hs1.out; exact gBelo)); have Hs2 : Hid (wb.heap.size ≤ w2.heap.size) := Hk2.out.size; obtain ⟨p02, p12, p22, p32⟩ := cells4 Hq.out Hk2.out hsb; clear hv2 hb2)
              | (go_at_call_of 23 u8; refine (put_slp u8 (ys) r4.b _ (HY3.out.below (by have hp := Hk2.out; have hs := Hs2.out; exact gBelo)) (by omega)).mono ?_; rintro e w3 ⟨v3, rfl, hv3, hb3⟩; have Hv3 := Lib.hid hv3; have Hn3 := Lib.hid hb3; have Hk3 : Hid (Below wb.heap.size wb w3) := Lib.hid (show Below wb.heap.size wb w3 from (by have hbq := hb3; have hp := Hk2.out; have hs := Hs2.out; exact gBelo)); have Hs3 : Hid (wb.heap.size ≤ w3.heap.size) := Hk3.out.size; obtain ⟨p03, p13, p23, p33⟩ := cells4 Hq.out Hk3.out hsb; clear hv3 hb3)
              | (go_at_call_of 23 v3; refine (put_slp v3 (putL ys r4.b) r4.t _ (Hv3.out) (by omega)).mono ?_; rintro e w4 ⟨v4, rfl, hv4, hb4⟩; have Hv4 := Lib.hid hv4; have Hn4 := Lib.hid hb4; have Hk4 : Hid (Below wb.heap.size wb w4) := Lib.hid (show Below wb.heap.size wb w4 from (by have hbq := hb4; have hp := Hk3.out; have hs := Hs3.out; exact gBelo)); have Hs4 : Hid (wb.heap.size ≤ w4.heap.size) := Hk4.out.size; obtain ⟨p04, p14, p24, p34⟩ := cells4 Hq.out Hk4.out hsb; clear hv4 hb4)
              | fail)
          all_goals
            go_wp2
            go_roundw
            case rel =>
              have hk4 := Hk4.out
              refine ⟨kk + 1, by omega, by go_num, ?_, ?_, ?_⟩
              · have h1 := Hbr.out
                have h2 := Hbb.out
                exact h1.trans ((h2.trans (hk4.mono (by omega))).mono (by omega))
              · rw [Hxn.out]
                exact (Hv2.out.below Hn3.out).below Hn4.out
              · rw [Hyn.out]; exact Hv4.out
            case measure => simp [intOf]; omega
        · have e1 : l.take kk = l := List.take_of_length_le (by omega)
          have HX5 : Hid (SlP wr u7 (xsOf (dn ++ l))) := Lib.hid (by have := HX2.out; rw [e1] at this; exact this)
          have HY5 : Hid (SlP wr u8 (ysOf (dn ++ l))) := Lib.hid (by have := HY2.out; rw [e1] at this; exact this)
          have hkp' : ¬ (kk : Int) < (p : Int) := by omega
          clear e1 hbr
          go_wp2
          go_roundw
          case rel => exact ⟨j + 1, by omega, by go_num, Hbo.out.trans (Hbr.out.mono hso), by rw [Hnext.out]; exact HX5.out, by rw [Hnext.out]; exact HY5.out⟩
          case measure => simp [intOf]; omega
    · obtain rfl : j = 2 := by omega
      have Hx9 : Hid (SlP wo u7 (xsC a b)) := Lib.hid HX.out
      have Hy9 : Hid (SlP wo u8 (ysC a b)) := Lib.hid HY.out
      have hxs := xsOf_len (a ++ b)
      have hys := ysOf_len (a ++ b)
      have hxlt := Lib.hid (xsOf_lt (a ++ b))
      have hylt := Lib.hid (ysOf_lt (a ++ b))
      have hal : (a ++ b).length ≤ 100000 := by simp; omega
      have Hcomb : Hid (combP (howR k) a b = flat (foldC (fun y => nz (rowC (howR k) a b (xsC a b) y)) (ysC a b) [])) := Lib.hid rfl
      have hx9 : xsOf (a ++ b) = xsC a b := rfl
      have hy9 : ysOf (a ++ b) = ysC a b := rfl
      rw [hx9] at hxs hxlt
      rw [hy9] at hys hylt
      generalize xsC a b = xs at *
      generalize ysC a b = ys at *
      clear hx9 hy9 HX HY hbo
      obtain ⟨X, xc, rfl, hX, _⟩ := Hx9.out
      obtain ⟨Y, yc, rfl, hY, _⟩ := Hy9.out
      have HX := Lib.hid hX
      have HY := Lib.hid hY
      have HAo := Lib.hid ((HA.out.below Hwa.out).below Hbo.out)
      have HBo := Lib.hid ((HB.out.below Hwa.out).below Hbo.out)
      clear hX hY Hx9 Hy9 Hab
      rw [show ((2 : Nat) : Int) = 2 from rfl]
      go_upto_region 13 with fail
      go_loopw [13, 14, 15] (fun o la i wr => ∃ (q : Nat) (y : Int) (acc : List (Sg (List (Sg Unit)))) (out last : List R4), q ≤ ys.length ∧ i = .int .i64 (q : Int) ∧ (∀ z, ys[q]? = some z → z = y) ∧ Hid (OutSt acc y out last) ∧ Hid (foldC (fun y => nz (rowC (howR k) a b xs y)) (ys.drop q) acc = foldC (fun y => nz (rowC (howR k) a b xs y)) ys []) ∧ Hid (acc.length ≤ q ∧ ∀ s ∈ acc, s.2.2.length ≤ 200000) ∧
        wr.ownsRow wo.heap.size 68 4 o out.length (rCells out) ∧ wr.ownsRow wo.heap.size 68 4 la last.length (rCells last) ∧ Hid (∀ g, o.ownBlock = some g → la.ownBlock ≠ some g) ∧ Below wo.heap.size wo wr) (fun _ _ i _ => ys.length - (intOf i).toNat)
      case atStart => exact ⟨0, (ys[0]?).getD 0, [], [], [], Nat.zero_le _, rfl, fun z hz => by rw [hz]; rfl, Lib.hid (OutSt.start _), Lib.hid rfl, Lib.hid ⟨Nat.le_refl _, by simp⟩, World.ownsRow_nil _ _ _ _, World.ownsRow_nil _ _ _ _, Lib.hid (fun g h => by simp [Value.ownBlock] at h), Below.refl _ _⟩
      case round =>
        obtain ⟨w1, rfl⟩ : ∃ w1 : World, w1 = wr := ⟨_, rfl⟩
        obtain ⟨q, y, acc, out, last, hq, rfl, hqy, Hst, Hrun, Hacc, hown, hlown, Hdis, hb1⟩ := hrel
        have hs1 := hb1.size
        have Hb1 := Lib.hid hb1
        have Hown := Lib.hid hown
        have Hlown := Lib.hid hlown
        have Hqy := Lib.hid hqy
        clear hown hlown hqy
        by_cases hqn : q + 1 < ys.length
        · have hq1 : q < ys.length := by omega
          obtain ⟨yb, yo, hYe, hyb1, cya⟩ := HY.out.at q hq1
          obtain ⟨yb', yo', hYe', _, cyb⟩ := HY.out.at (q + 1) hqn
          rw [hYe] at hYe'
          injection hYe' with hYe'
          injection hYe' with e1 e2 _
          subst e1 e2 hYe
          have hy : ys[q] = y := Hqy.out _ (List.getElem?_eq_getElem hq1)
          have hlt := lt_next hylt.out q hqn
          have Hdrop := Lib.hid (foldC_drop (fun y => nz (rowC (howR k) a b xs y)) ys q hqn acc)
          obtain ⟨y', hy'⟩ : ∃ y', ys[q + 1] = y' := ⟨_, rfl⟩
          have Hy' : Hid (∀ z, ys[q + 1]? = some z → z = y') := Lib.hid (fun z hz => by rw [List.getElem?_eq_getElem hqn] at hz; injection hz with hz; rw [← hz, hy'])
          rw [hy] at cya hlt Hdrop
          rw [hy'] at cyb hlt Hdrop
          have Hcy : Hid (∀ W, Below wo.heap.size wo W → W.cell? ⟨yb, yo + q, none⟩ = some (.int .i64 y) ∧ W.cell? ⟨yb, yo + (q + 1), none⟩ = some (.int .i64 y')) := Lib.hid (fun W hW => ⟨(hW.cell (p := ⟨yb, yo + q, none⟩) hyb1).trans cya, (hW.cell (p := ⟨yb, yo + (q + 1), none⟩) hyb1).trans cyb⟩)
          clear hy hy' cya cyb
          have hqn' : (q : Int) + 1 < (ys.length : Int) := by omega
          have hq19 : q ≤ 200000 := by omega
          clear hb1
          go_upto_region 17 with fail
          go_loopw [16, 17] (fun bv i wr => ∃ (r : Nat) (sacc : List (Sg Unit)), r ≤ xs.length ∧ i = .int .i64 (r : Int) ∧ wr.ownsRow w1.heap.size 68 4 bv (bandR y y' sacc).length (rCells (bandR y y' sacc)) ∧ Below w1.heap.size w1 wr ∧ Hid (foldC (fun x => opt (howR k (inL a x y) (inL b x y))) (xs.drop r) sacc = rowC (howR k) a b xs y) ∧ Hid (sacc.length ≤ r)) (fun _ i _ => xs.length - (intOf i).toNat)
          case atStart => exact ⟨0, [], Nat.zero_le _, rfl, World.ownsRow_nil _ _ _ _, Below.refl _ _, Lib.hid rfl, Lib.hid (Nat.le_refl _)⟩
          case round =>
            obtain ⟨r, sacc, hr, rfl, hbown, hbr, Hrow, Hsl⟩ := hrel
            have hsr := hbr.size
            have Hbr := Lib.hid hbr
            have Hbo2 : Hid (Below wo.heap.size wo wr) := Lib.hid (Hb1.out.trans (hbr.mono hs1))
            obtain ⟨cy0, cy1⟩ := Hcy.out wr Hbo2.out
            have Hbown := Lib.hid hbown
            clear hbown hbr
            by_cases hrn : r + 1 < xs.length
            · have hr1 : r < xs.length := by omega
              obtain ⟨xb, xo, hXe, hxb1, cxa⟩ := HX.out.at r hr1
              obtain ⟨xb', xo', hXe', _, cxb⟩ := HX.out.at (r + 1) hrn
              rw [hXe] at hXe'
              injection hXe' with hXe'
              injection hXe' with e1 e2 _
              subst e1 e2 hXe
              have Hdropx := Lib.hid (foldC_drop (fun x => opt (howR k (inL a x y) (inL b x y))) xs r hrn sacc)
              have hltx := lt_next hxlt.out r hrn
              have hrn' : (r : Int) + 1 < (xs.length : Int) := by omega
              have hr19 : r ≤ 200000 := by omega
              have hslr : sacc.length ≤ r := Hsl.out
              have Hin1 := Lib.hid (fun W (hW : Below wr.heap.size wr W) => insideR_any A n c a xs[r] y W ((HAo.out.below Hbo2.out).below hW))
              have Hin2 := Lib.hid (fun W (hW : Below wr.heap.size wr W) => insideR_any B m d b xs[r] y W ((HBo.out.below Hbo2.out).below hW))
              generalize xs[r] = x at *
              generalize xs[r + 1] = x' at *
              have Hcx : Hid (∀ W, Below wo.heap.size wo W → W.cell? ⟨xb, xo + r, none⟩ = some (.int .i64 x) ∧ W.cell? ⟨xb, xo + (r + 1), none⟩ = some (.int .i64 x')) := Lib.hid (fun W hW => ⟨(hW.cell (p := ⟨xb, xo + r, none⟩) hxb1).trans cxa, (hW.cell (p := ⟨xb, xo + (r + 1), none⟩) hxb1).trans cxb⟩)
              clear cxa cxb
              obtain ⟨cx0, cx1⟩ := Hcx.out wr Hbo2.out
              have hxb : xb < wr.heap.size := by omega
              generalize inL a x y = ia at *
              generalize inL b x y = ib at *
              go_upto_region 19 with fail
              have hyb2 : yb < wr.heap.size := by omega
              by_cases hk : howR k ia ib = true
              · rw [hk] at Hdropx
                refine wp_region_below wr.heap.size (Nat.le_refl _) (by kernel_rfl) (by kernel_rfl) ?_
                intro I _ F hFc hFb hFs
                have kx := fun i => (hFc i xb (xo + r) hxb).trans cx0
                have ky := fun i => (hFc i yb (yo + q) hyb2).trans cy0
                repeat (go_big_quiet_step ((first
                  | (go_at_call_of 129 A; exact class_call hFb hFs (Nat.le_refl _) (Hin1.out _ (hFb _)))
                  | (go_at_call_of 129 B; exact class_call hFb hFs (Nat.le_refl _) (Hin2.out _ (hFb _)))
                  | (go_at_call 128; exact class_same (keepR_any _ _ _ _)))))
                refine wpQuiet_nil ?_
                rintro _ ⟨iq, rfl⟩
                generalize hw3 : F iq = w3
                have Hb3 : Hid (Below wr.heap.size wr w3) := Lib.hid (by rw [← hw3]; exact hFb iq)
                clear hw3 hFc hFb hFs kx ky
                rcases list_snoc sacc with hsn | ⟨s0, s, hsn⟩
                · have Hnew : Hid (stepO sacc x x' (some ()) = sacc ++ [(x, x', ())]) := Lib.hid (step_band_new x x' sacc (by rw [hsn]; simp))
                  obtain ⟨bl, hbl⟩ : ∃ bl, bandR y y' sacc = bl := ⟨_, rfl⟩
                  obtain ⟨nb, hnb⟩ : ∃ nb, bl.length = nb := ⟨_, rfl⟩
                  have hn0 : nb = 0 := by rw [← hnb, ← hbl, hsn]; rfl
                  have Hbl := Lib.hid hbl
                  rw [hbl, hnb] at Hbown
                  subst hn0
                  have Hnb := Lib.hid hnb
                  obtain ⟨Bd, bc, rfl, _, _, _⟩ := own_slice Hbown.out
                  have Hsn := Lib.hid hsn
                  clear hsn hbl hnb
                  have hs3 := Hb3.out.size
                  go_upto_region 21 with fail
                  have Hbown3 := Lib.hid (ownsRow_below Hbown.out Hb3.out)
                  go_quiet (fail)
                  go_upto_region 23 with fail
                  have Hbown4 : Hid (World.ownsRow (w3.drewN nq) w1.heap.size 68 4 (.slice Bd 0 bc) 0 (rCells bl)) := Hbown3
                  have Hb4 : Hid (Below wr.heap.size wr (w3.drewN nq)) := Lib.hid (below_drewN Hb3.out nq)
                  generalize w3.drewN nq = w4 at *
                  have Hq4 : Hid (Below wr.heap.size wr w4) := Hb4
                  have d0 := (Hq4.out.cell (p := ⟨xb, xo + r, none⟩) hxb).trans cx0
                  have d1 := (Hq4.out.cell (p := ⟨xb, xo + (r + 1), none⟩) hxb).trans cx1
                  have d2 := (Hq4.out.cell (p := ⟨yb, yo + q, none⟩) hyb2).trans cy0
                  have d3 := (Hq4.out.cell (p := ⟨yb, yo + (q + 1), none⟩) hyb2).trans cy1
                  have hs4 := Hq4.out.size
                  have hxb4 : xb < w4.heap.size := by omega
                  have hyb4 : yb < w4.heap.size := by omega
                  have hnb9 : 0 ≤ 200001 := by omega
                  have hwr1 : IntKind.i64.wrap ((r : Int) + 1) = (r : Int) + 1 := IntWalk.i64_in _ (by omega)
                  have hwq1 : IntKind.i64.wrap ((q : Int) + 1) = (q : Int) + 1 := IntWalk.i64_in _ (by omega)
                  have hr01 : (0 : Int) ≤ (r : Int) + 1 := by omega
                  have hq01 : (0 : Int) ≤ (q : Int) + 1 := by omega
                  have hr0 : (0 : Int) ≤ (r : Int) := by omega
                  have hq0 : (0 : Int) ≤ (q : Int) := by omega
                  have hrl : (r : Int) < (xs.length : Int) := by omega
                  have hql : (q : Int) < (ys.length : Int) := by omega
                  go_region_held3 (fun w' => w'.cell? ⟨xb, xo + r, none⟩ = some (.int .i64 x) ∧ w'.cell? ⟨yb, yo + q, none⟩ = some (.int .i64 y) ∧ w'.cell? ⟨xb, xo + (r + 1), none⟩ = some (.int .i64 x') ∧ w'.cell? ⟨yb, yo + (q + 1), none⟩ = some (.int .i64 y'))
                    (first | go_keep | ((repeat' apply And.intro) <;> go_keep))
                    (first
                      | (refine step_append_any _ rfl (.tmp 114) (.tmp 134) 31 rfl w1.heap.size 68 i0 (.agg #[.int .i64 0, .int .i64 0, .int .i64 0, .int .i64 0]) 4 32 Tryz.underlying31 hi hz0 hz1 hz2 rfl (by omega) (.slice Bd 0 bc) 0 (rCells bl) rfl (ownsRow_below Hbown4.out gBel) _ _ 1 1 [.int .i64 x, .int .i64 y, .int .i64 x', .int .i64 y'] rfl ⟨rfl, fun _ => ⟨_, rfl, Nat.lt_succ_self _, fun j u hu => (by exact news_any _ _ _ j u hu)⟩⟩ (by simp [Value.oneCell']) (by unfold maxLen; omega) (by omega) (by first | (simp; done) | (simp; omega) | omega) ?_
                         intro v5 w5 hown5 hg5 hat5
                         have Hb5 : Hid (Below w1.heap.size w1 w5) := Lib.hid (show Below w1.heap.size w1 w5 from Below.grown (by have h1 := Hbr.out; have h2 := Hq4.out; exact gBelo) hg5 (by first | (simp; done) | (simp; omega) | omega) (own_base Hbown4.out))
                         have Hbo5 : Hid (Below wo.heap.size wo w5) := Lib.hid (show Below wo.heap.size wo w5 from Hb1.out.trans (Hb5.out.mono hs1))
                         obtain ⟨d05, d15⟩ := Hcx.out w5 Hbo5.out
                         obtain ⟨d25, d35⟩ := Hcy.out w5 Hbo5.out
                         obtain ⟨Bd5, bc5, rfl, _, _, _⟩ := own_slice hown5
                         have Hown5 := Lib.hid hown5
                         clear hown5 hg5 hat5)
                      | fail)
                  all_goals
                    go_wp2
                    go_roundw
                    case rel =>
                      refine ⟨r + 1, sacc ++ [(x, x', ())], by omega, by go_num, ?_, Hb5.out, Lib.hid (by rw [← Hrow.out, Hdropx.out, show opt true = some () from rfl, Hnew.out]), Lib.hid (by simp; omega)⟩
                      have e1 : (bandR y y' (sacc ++ [(x, x', ())])).length = 0 + 1 := by rw [bandR_len, List.length_append, ← bandR_len y y' sacc, Hbl.out, Hnb.out]; rfl
                      rw [e1, bandR_snoc, rCells_snoc, Hbl.out]
                      exact Hown5.out
                    case measure => simp [intOf]; omega
                · have hs0l : Hid (sacc.length = s0.length + 1) := Lib.hid (by rw [hsn]; simp)
                  have Hsn := Lib.hid hsn
                  obtain ⟨bl, hbl⟩ : ∃ bl, bandR y y' sacc = bl := ⟨_, rfl⟩
                  obtain ⟨nb, hnb⟩ : ∃ nb, bl.length = nb := ⟨_, rfl⟩
                  obtain ⟨p, hp⟩ : ∃ p, s0.length = p := ⟨_, rfl⟩
                  have hn1 : nb = p + 1 := by rw [← hnb, ← hbl, bandR_len, hs0l.out, hp]
                  have hbe : bl = bandR y y' s0 ++ [⟨s.1, y, s.2.1, y'⟩] := by rw [← hbl, hsn, bandR_snoc]
                  have hpl : p < bl.length := by omega
                  have hblp : bl[p] = ⟨s.1, y, s.2.1, y'⟩ := by
                    have h1 : bl[p]? = some ⟨s.1, y, s.2.1, y'⟩ := by rw [hbe, List.getElem?_append_right (by rw [bandR_len]; omega), bandR_len, hp]; simp
                    rw [List.getElem?_eq_getElem hpl] at h1
                    exact Option.some.inj h1
                  have Hbl := Lib.hid hbl
                  have Hnb := Lib.hid hnb
                  have Hn1 := Lib.hid hn1
                  rw [hbl, hnb] at Hbown
                  obtain ⟨g, bc, rfl, hgb, hgl, hnc, hcm, hcells, hfr⟩ := own_at Hbown.out (by omega)
                  have cr := hcells (p * 4 + 2) _ (rCells_at bl p hpl).2.2.1
                  rw [hblp] at cr
                  simp only at cr
                  have Hset : Hid (∀ z : Int, rCells (bandR y y' (s0 ++ [(s.1, z, ())])) = (rCells bl).set (p * 4 + 2) (.int .i64 z)) := Lib.hid (fun z => by
                    rw [← rCells_setR bl p hpl z, hblp, hbe, bandR_snoc]
                    congr 1
                    rw [List.set_append_right _ _ (by rw [bandR_len]; omega), bandR_len, hp, Nat.sub_self]
                    rfl)
                  have hnb19 : nb ≤ 200001 := by have := hs0l.out; omega
                  have hwn : IntKind.i64.wrap ((nb : Int) - 1) = (p : Int) := by rw [IntWalk.i64_in _ (by omega)]; omega
                  have hnp : (p : Int) < (nb : Int) := by omega
                  have hn00 : (0 : Int) < (nb : Int) := by omega
                  have hp00 : (0 : Int) ≤ (p : Int) := by omega
                  have hn0N : 0 < nb := by omega
                  have hnpN : p < nb := by omega
                  have hdn : decide (0 < nb) = true := decide_eq_true hn0N
                  have hfg := hfr (p * 4 + 2)
                  have hs3 := Hb3.out.size
                  have cr3 := (Hb3.out.cell (p := ⟨g, p * 4 + 2, none⟩) hgl).trans cr
                  have fr3 := (Hb3.out.frozen (p := ⟨g, p * 4 + 2, none⟩) hgl).trans hfg
                  have cx03 := (Hb3.out.cell (p := ⟨xb, xo + r, none⟩) hxb).trans cx0
                  have cx13 := (Hb3.out.cell (p := ⟨xb, xo + (r + 1), none⟩) hxb).trans cx1
                  have hr0 : (0 : Int) ≤ (r : Int) := by omega
                  have hrl : (r : Int) < (xs.length : Int) := by omega
                  have hwr1' : IntKind.i64.wrap ((r : Int) + 1) = (r : Int) + 1 := IntWalk.i64_in _ (by omega)
                  have hr01' : (0 : Int) ≤ (r : Int) + 1 := by omega
                  have Hbown3 := Lib.hid (ownsRow_below Hbown.out Hb3.out)
                  clear hsn hbl hnb hn1 hbe hpl hblp hcells hfr cr hfg
                  go_upto_region 21 with fail
                  by_cases hsx : s.2.1 = x
                  · have Hsx := Lib.hid hsx
                    rw [hsx] at cr3
                    clear hsx
                    go_quiet (fail)
                    have Hbown4 : Hid (World.ownsRow (w3.drewN nq) w1.heap.size 68 4 (.slice (some ⟨g, 0, none⟩) nb bc) nb (rCells bl)) := Hbown3
                    have Hb4 : Hid (Below wr.heap.size wr (w3.drewN nq)) := Lib.hid (below_drewN Hb3.out nq)
                    have cx14 : (w3.drewN nq).cell? ⟨xb, xo + (r + 1), none⟩ = some (.int .i64 x') := cx13
                    have fr4 : (w3.drewN nq).frozen? ⟨g, p * 4 + 2, none⟩ = false := fr3
                    have cr4 : (w3.drewN nq).cell? ⟨g, p * 4 + 2, none⟩ = some (.int .i64 x) := cr3
                    generalize w3.drewN nq = w4 at *
                    go_wp2
                    go_roundw
                    case rel =>
                      refine ⟨r + 1, s0 ++ [(s.1, x', ())], by omega, by go_num, ?_, ?_, Lib.hid ?_, Lib.hid ?_⟩
                      · have e1 : (bandR y y' (s0 ++ [(s.1, x', ())])).length = nb := by rw [bandR_len, List.length_append, hp, Hn1.out]; rfl
                        rw [e1, Hset.out]
                        exact own_setN Hbown4.out _ _
                      · have h1 := Hbr.out
                        have h2 := Hb4.out
                        exact (h1.trans (h2.mono hsr)).setCell hgb _
                      · rw [← Hrow.out, Hdropx.out, show opt true = some () from rfl, Hsn.out, step_band_ext y y' x x' s0 s Hsx.out]
                      · have := hs0l.out; simp; omega
                    case measure => simp [intOf]; omega
                  · have Hnew : Hid (stepO sacc x x' (some ()) = sacc ++ [(x, x', ())]) := Lib.hid (step_band_new x x' sacc (by rw [Hsn.out]; simp; exact hsx))
                    go_quiet (fail)
                    go_upto_region 23 with fail
                    have Hbown4 : Hid (World.ownsRow (w3.drewN nq) w1.heap.size 68 4 (.slice (some ⟨g, 0, none⟩) nb bc) nb (rCells bl)) := Hbown3
                    have Hb4 : Hid (Below wr.heap.size wr (w3.drewN nq)) := Lib.hid (below_drewN Hb3.out nq)
                    generalize w3.drewN nq = w4 at *
                    clear cr3 fr3 cx03 cx13
                    have Hq4 : Hid (Below wr.heap.size wr w4) := Hb4
                    have d0 := (Hq4.out.cell (p := ⟨xb, xo + r, none⟩) hxb).trans cx0
                    have d1 := (Hq4.out.cell (p := ⟨xb, xo + (r + 1), none⟩) hxb).trans cx1
                    have d2 := (Hq4.out.cell (p := ⟨yb, yo + q, none⟩) hyb2).trans cy0
                    have d3 := (Hq4.out.cell (p := ⟨yb, yo + (q + 1), none⟩) hyb2).trans cy1
                    have hs4 := Hq4.out.size
                    have hxb4 : xb < w4.heap.size := by omega
                    have hyb4 : yb < w4.heap.size := by omega
                    have hnb9 : nb ≤ 200001 := by omega
                    have hwr1 : IntKind.i64.wrap ((r : Int) + 1) = (r : Int) + 1 := IntWalk.i64_in _ (by omega)
                    have hwq1 : IntKind.i64.wrap ((q : Int) + 1) = (q : Int) + 1 := IntWalk.i64_in _ (by omega)
                    have hr01 : (0 : Int) ≤ (r : Int) + 1 := by omega
                    have hq01 : (0 : Int) ≤ (q : Int) + 1 := by omega
                    have hr0 : (0 : Int) ≤ (r : Int) := by omega
                    have hq0 : (0 : Int) ≤ (q : Int) := by omega
                    have hrl : (r : Int) < (xs.length : Int) := by omega
                    have hql : (q : Int) < (ys.length : Int) := by omega
                    go_region_held3 (fun w' => w'.cell? ⟨xb, xo + r, none⟩ = some (.int .i64 x) ∧ w'.cell? ⟨yb, yo + q, none⟩ = some (.int .i64 y) ∧ w'.cell? ⟨xb, xo + (r + 1), none⟩ = some (.int .i64 x') ∧ w'.cell? ⟨yb, yo + (q + 1), none⟩ = some (.int .i64 y'))
                      (first | go_keep | ((repeat' apply And.intro) <;> go_keep))
                      (first
                        | (refine step_append_any _ rfl (.tmp 114) (.tmp 134) 31 rfl w1.heap.size 68 i0 (.agg #[.int .i64 0, .int .i64 0, .int .i64 0, .int .i64 0]) 4 32 Tryz.underlying31 hi hz0 hz1 hz2 rfl (by omega) (.slice (some ⟨g, 0, none⟩) nb bc) nb (rCells bl) rfl (ownsRow_below Hbown4.out gBel) _ _ 1 1 [.int .i64 x, .int .i64 y, .int .i64 x', .int .i64 y'] rfl ⟨rfl, fun _ => ⟨_, rfl, Nat.lt_succ_self _, fun j u hu => (by exact news_any _ _ _ j u hu)⟩⟩ (by simp [Value.oneCell']) (by unfold maxLen; omega) (by omega) (by first | (simp; done) | (simp; omega) | omega) ?_
                           intro v5 w5 hown5 hg5 hat5
                           have Hb5 : Hid (Below w1.heap.size w1 w5) := Lib.hid (show Below w1.heap.size w1 w5 from Below.grown (by have h1 := Hbr.out; have h2 := Hq4.out; exact gBelo) hg5 (by first | (simp; done) | (simp; omega) | omega) (own_base Hbown4.out))
                           have Hbo5 : Hid (Below wo.heap.size wo w5) := Lib.hid (show Below wo.heap.size wo w5 from Hb1.out.trans (Hb5.out.mono hs1))
                           obtain ⟨d05, d15⟩ := Hcx.out w5 Hbo5.out
                           obtain ⟨d25, d35⟩ := Hcy.out w5 Hbo5.out
                           obtain ⟨Bd5, bc5, rfl, _, _, _⟩ := own_slice hown5
                           have Hown5 := Lib.hid hown5
                           clear hown5 hg5 hat5)
                        | fail)
                    all_goals
                      go_wp2
                      go_roundw
                      case rel =>
                        refine ⟨r + 1, sacc ++ [(x, x', ())], by omega, by go_num, ?_, Hb5.out, Lib.hid (by rw [← Hrow.out, Hdropx.out, show opt true = some () from rfl, Hnew.out]), Lib.hid (by simp; omega)⟩
                        have e1 : (bandR y y' (sacc ++ [(x, x', ())])).length = nb + 1 := by rw [bandR_len, List.length_append, ← bandR_len y y' sacc, Hbl.out, Hnb.out]; rfl
                        rw [e1, bandR_snoc, rCells_snoc, Hbl.out]
                        exact Hown5.out
                      case measure => simp [intOf]; omega
              · have hkf : howR k ia ib = false := by simpa using hk
                rw [hkf] at Hdropx
                refine wp_region_below wr.heap.size (Nat.le_refl _) (by kernel_rfl) (by kernel_rfl) ?_
                intro I _ F hFc hFb hFs
                have kx := fun i => (hFc i xb (xo + r) hxb).trans cx0
                have ky := fun i => (hFc i yb (yo + q) hyb2).trans cy0
                repeat (go_big_quiet_step ((first
                  | (go_at_call_of 129 A; exact class_call hFb hFs (Nat.le_refl _) (Hin1.out _ (hFb _)))
                  | (go_at_call_of 129 B; exact class_call hFb hFs (Nat.le_refl _) (Hin2.out _ (hFb _)))
                  | (go_at_call 128; exact class_same (keepR_any _ _ _ _)))))
                refine wpQuiet_nil ?_
                rintro _ ⟨iq, rfl⟩
                generalize hw3 : F iq = w3
                have Hb3 : Hid (Below wr.heap.size wr w3) := Lib.hid (by rw [← hw3]; exact hFb iq)
                clear hw3 hFc hFb hFs kx ky
                go_wp2
                go_roundw
                case rel =>
                  have h2 := Hb3.out
                  exact ⟨r + 1, sacc, by omega, by go_num, ownsRow_below Hbown.out h2, Hbr.out.trans (h2.mono hsr), Lib.hid (by rw [← Hrow.out, Hdropx.out]; rfl), Lib.hid (by have := Hsl.out; omega)⟩
                case measure => simp [intOf]; omega
            · have hrn' : ¬ (r : Int) + 1 < (xs.length : Int) := by omega
              have Hrw : Hid (rowC (howR k) a b xs y = sacc) := Lib.hid (by rw [← Hrow.out, foldC_end _ _ _ (by omega)])
              have hslen : sacc.length ≤ 200000 := by have := Hsl.out; omega
              rw [Hrw.out] at Hdrop
              obtain ⟨nxt, hnxt⟩ : ∃ nxt, stepO acc y y' (nz sacc) = nxt := ⟨_, rfl⟩
              have Hext : Hid (last ≠ [] → lr last = lr (bandR y y' sacc) → OutSt nxt y' out (last.map fun q => ⟨q.l, q.b, q.r, y'⟩)) := Lib.hid (fun h1 h2 => by rw [← hnxt]; exact Hst.out.ext h1 h2 hlt)
              have Hpush : Hid (¬ (last ≠ [] ∧ lr last = lr (bandR y y' sacc)) → OutSt nxt y' (out ++ last) (bandR y y' sacc)) := Lib.hid (fun h1 => by rw [← hnxt]; exact Hst.out.push h1 hlt)
              have Hnxt : Hid (nxt.length ≤ q + 1 ∧ ∀ s ∈ nxt, s.2.2.length ≤ 200000) := Lib.hid (by
                rw [← hnxt]
                refine ⟨Nat.le_trans (stepO_len _ _ _ _) (by have := Hacc.out.1; omega), stepO_val (fun v : List (Sg Unit) => v.length ≤ 200000) acc y y' (nz sacc) Hacc.out.2 fun v hv => ?_⟩
                rw [← (nz_some hv).1]; exact hslen)
              have Hfl : Hid (out.length + last.length ≤ 40000000000) := Lib.hid (by
                have h1 := flat_len 200000 acc Hacc.out.2
                have h2 := congrArg List.length Hst.out.done
                have h3 := Hacc.out.1
                rw [List.length_append] at h2
                have h4 : acc.length * 200000 ≤ 200000 * 200000 := Nat.mul_le_mul_right _ (by omega)
                omega)
              have Hhigh := Lib.hid Hst.out.high
              have hrun2 : foldC (fun y => nz (rowC (howR k) a b xs y)) (ys.drop (q + 1)) nxt = foldC (fun y => nz (rowC (howR k) a b xs y)) ys [] := by rw [← Hrun.out, Hdrop.out, hnxt]
              have Hrun2 := Lib.hid hrun2
              clear hrun2 hnxt
              obtain ⟨bl, hbl⟩ : ∃ bl, bandR y y' sacc = bl := ⟨_, rfl⟩
              have hbll : bl.length ≤ 200000 := by rw [← hbl, bandR_len]; exact hslen
              rw [hbl] at Hbown Hext Hpush
              clear hbl
              obtain ⟨Bd, bc, rfl, hBl, hBc, hBm⟩ := own_slice Hbown.out
              have HBs : Hid (SlR wr (Bd) bl.length bc bl) := Lib.hid ⟨rfl, hBc, hBm, hBl⟩
              have Hlown2 : Hid (wr.ownsRow wo.heap.size 68 4 u14 last.length (rCells last)) := Lib.hid (ownsRow_below Hlown.out Hbr.out)
              have Hown2 : Hid (wr.ownsRow wo.heap.size 68 4 u13 out.length (rCells out)) := Lib.hid (ownsRow_below Hown.out Hbr.out)
              obtain ⟨Ld, lc, hLe, hLl, hLc, hLm⟩ := own_slice Hlown2.out
              subst hLe
              have HLs : Hid (SlR wr Ld last.length lc last) := Lib.hid ⟨rfl, hLc, hLm, hLl⟩
              clear hBl hBm hLl hLm
              go_upto_region 24 with fail
              have hlow13 : Hid (∀ g, u13.ownBlock = some g → g < w1.heap.size) := Lib.hid (fun g h => (Hown.out.lt g h).2)
              obtain ⟨ln, hln⟩ : ∃ ln, last.length = ln := ⟨_, rfl⟩
              have hoff : out.length + ln ≤ 40000000000 := by have := Hfl.out; omega
              rw [hln] at HLs Hlown2 ⊢
              have Hln := Lib.hid hln
              clear hln
              have hcase : (last = [] ∧ ln = 0) ∨ (last ≠ [] ∧ 0 < ln) := by
                have := Hln.out
                cases last with
                | nil => exact .inl ⟨rfl, by simpa using this.symm⟩
                | cons p t => exact .inr ⟨by simp, by simp at this; omega⟩
              rcases hcase with ⟨hl0, hln0⟩ | ⟨hl0, hln0⟩
              · have Hno : Hid (¬ (last ≠ [] ∧ lr last = lr bl)) := Lib.hid (fun h => h.1 hl0)
                have Hpushed := Lib.hid (Hpush.out Hno.out)
                subst hln0
                clear Hno
                refine wp_region_below wr.heap.size (Nat.le_refl _) (by kernel_rfl) (by kernel_rfl) ?_
                intro I _ F hFc hFb hFs
                repeat (go_big_quiet_step (fail))
                refine wpQuiet_nil ?_
                rintro _ ⟨iq, rfl⟩
                generalize hw3 : F iq = w3
                have Hb3 : Hid (Below wr.heap.size wr w3) := Lib.hid (by rw [← hw3]; exact hFb iq)
                have hs3 := Hb3.out.size
                have Hown3 : Hid (w3.ownsRow wo.heap.size 68 4 u13 out.length (rCells out)) := Lib.hid (ownsRow_below Hown2.out Hb3.out)
                have HLr : Hid (Reads w3 w3.heap.size 4 Ld 0 (rCells last)) := Lib.hid ((HLs.out.below Hb3.out).lies.reads (by rw [rCells_len, Hln.out]))
                have hso3 : wo.heap.size ≤ w3.heap.size := by omega
                have hnew : out.length + 0 ≤ 40000000000 := hoff
                clear hw3 hFc hFb hFs
                go_upto_region 30 with fail
                go_wp2_with (at_builtin
                             refine wpList_append_any _ rfl (.tmp 170) (.tmp 171) _ rfl wo.heap.size 68 i0 _ 4 32 Tryz.underlying31 hi hz0 hz1 hz2 rfl (by omega) _ out.length (rCells out) rfl
                               Hown3.out w3.heap.size Ld 0 lc (rCells last) rfl HLr.out (rCells_one last) (by simp only [maxLen]; omega) (by omega) hso3 ?_
                             intro v5 w5 hown5 hg5 hat5)
                go_roundw
                case rel =>
                  have h1 := Hb1.out
                  have h2 := Hbr.out
                  have h3 := Hb3.out
                  have hbase : ∀ g, (Value.slice Bd bl.length bc).ownBlock = some g → w1.heap.size ≤ g ∧ g < w3.heap.size := fun g h => by
                    have := Hbown.out.lt g h
                    exact ⟨this.1, by omega⟩
                  refine ⟨q + 1, y', nxt, out ++ last, bl, by omega, by go_num, Hy'.out, Hpushed, Hrun2, Hnxt, ?_, ?_, Lib.hid ?_, ?_⟩
                  · rw [List.length_append, rCells_app, Hln.out]
                    exact hown5
                  · exact own_rebase (own_other (ownsRow_below Hbown.out h3) hg5 (fun g h e => by have := hlow13.out g e; have := hbase g h; omega)) hs1
                  · intro g hg e
                    have hb := hbase g e
                    rcases hat5 with h | h
                    · rw [h] at hg
                      have := hlow13.out g hg
                      omega
                    · rw [h] at hg
                      injection hg with hg
                      omega
                  · exact Below.grown ((h1.trans (h2.mono hs1)).trans (h3.mono (by omega))) hg5 hso3 (own_base Hown3.out)
                case measure => simp [intOf]; omega
              · have hlnN : (0 : Int) < (ln : Int) := by omega
                have hlnd : decide (0 < ln) = true := decide_eq_true hln0
                obtain ⟨gl, lc', hLe, hglb, hgll, _, _, hLcells, hLfr⟩ := own_at Hlown2.out hln0
                injection hLe with hLe _ e2
                subst hLe e2
                have hc0 : ∃ q0, last[0]? = some q0 := by
                  cases last with
                  | nil => exact absurd rfl hl0
                  | cons p t => exact ⟨p, rfl⟩
                obtain ⟨q0, hq0⟩ := hc0
                have hq0t : q0.t = y := Hhigh.out q0 (List.mem_of_getElem? hq0)
                have h0l : 0 < last.length := by have := Hln.out; omega
                have h33 : (rCells last)[3]? = some (.int .i64 y) := by
                  have h1 := (rCells_at last 0 h0l).2.2.2
                  rw [List.getElem?_eq_getElem h0l] at hq0
                  injection hq0 with hq0
                  rw [hq0, hq0t] at h1
                  exact h1
                have c3 := hLcells 3 _ h33
                clear h33
                have Hsame := Lib.hid (fun W (hW : Below wr.heap.size wr W) => sameR_any (some ⟨gl, 0, none⟩) Bd ln lc bl.length bc last bl W (by have := HLs.out; exact this.below hW) (HBs.out.below hW))
                obtain ⟨cy0, cy1⟩ := Hcy.out wr (Hb1.out.trans (Hbr.out.mono hs1))
                have hyb : yb < wr.heap.size := by omega
                have Hl0 := Lib.hid hl0
                have hq0' : (0 : Int) ≤ (q : Int) := by omega
                have hql' : (q : Int) < (ys.length : Int) := by omega
                clear hLcells hLfr hl0 hq0 hq0t h0l
                by_cases hlr : lr last = lr bl
                · have Hlr := Lib.hid hlr
                  have Hexted := Lib.hid (Hext.out Hl0.out hlr)
                  have hld : decide (lr last = lr bl) = true := decide_eq_true hlr
                  obtain ⟨rs, hrs⟩ : ∃ rs : Bool, decide (lr last = lr bl) = rs := ⟨_, rfl⟩
                  rw [hrs] at Hsame hld
                  subst hld
                  clear hrs hlr
                  refine wp_region_below wr.heap.size (Nat.le_refl _) (by kernel_rfl) (by kernel_rfl) ?_
                  intro I _ F hFc hFb hFs
                  have kl := fun i => (hFc i gl 3 hgll).trans c3
                  have ky := fun i => (hFc i yb (yo + q) hyb).trans cy0
                  repeat (go_big_quiet_step ((first
                    | (go_at_call 130; exact class_call hFb hFs (Nat.le_refl _) (Hsame.out _ (hFb _))))))
                  refine wpQuiet_nil ?_
                  rintro _ ⟨iq, rfl⟩
                  generalize hw3 : F iq = w3
                  have Hb3 : Hid (Below wr.heap.size wr w3) := Lib.hid (by rw [← hw3]; exact hFb iq)
                  have hs3 := Hb3.out.size
                  have hso3 : wo.heap.size ≤ w3.heap.size := by omega
                  have Hown3 : Hid (w3.ownsRow wo.heap.size 68 4 u13 out.length (rCells out)) := Lib.hid (ownsRow_below Hown2.out Hb3.out)
                  have Hlown3 : Hid (w3.ownsRow wo.heap.size 68 4 (.slice (some ⟨gl, 0, none⟩) ln lc) ln (rCells last)) := Lib.hid (ownsRow_below Hlown2.out Hb3.out)
                  have Hbo3 : Hid (Below wo.heap.size wo w3) := Lib.hid (by have h1 := Hb1.out; have h2 := Hbr.out; have h3 := Hb3.out; exact (h1.trans (h2.mono hs1)).trans (h3.mono (by omega)))
                  have hgl3 : gl < w3.heap.size := by omega
                  have hll : last.length = ln := Hln.out
                  have hln9 : ln ≤ 40000000000 := by omega
                  clear hw3 hFc hFb hFs kl ky c3 cy0 cy1
                  go_upto_region 26 with fail
                  go_loopw [19, 157] (fun _ i wr' => ∃ t : Nat, t ≤ ln ∧ i = .int .i64 (t : Int) ∧ wr'.ownsRow wo.heap.size 68 4 (.slice (some ⟨gl, 0, none⟩) ln lc) ln (rCells (upR y' t last)) ∧ w3.grownBy wr' (some gl)) (fun _ i _ => ln - (intOf i).toNat)
                  case atStart => exact ⟨0, Nat.zero_le _, rfl, Hlown3.out, World.grownBy.refl _ _⟩
                  case round =>
                    obtain ⟨w5, rfl⟩ : ∃ w5 : World, w5 = wr := ⟨_, rfl⟩
                    obtain ⟨t, ht, rfl, hown5, hg5⟩ := hrel
                    have Hown5 := Lib.hid hown5
                    have Hg5 := Lib.hid hg5
                    have hs5 := hg5.size
                    have Hbo5 : Hid (Below wo.heap.size wo w5) := Lib.hid (below_only Hbo3.out hg5 hglb hso3)
                    clear hown5 hg5
                    by_cases htn : t < ln
                    · obtain ⟨cy0, cy1⟩ := Hcy.out w5 Hbo5.out
                      obtain ⟨gl', lc', hLe', _, _, _, _, hLc', hLfr'⟩ := own_at Hown5.out hln0
                      injection hLe' with hLe' _ e9
                      subst e9
                      injection hLe' with hLe'
                      injection hLe' with e1 _ _
                      subst e1
                      have fr := hLfr' (t * 4 + 3)
                      have htl : t < (upR y' t last).length := by rw [upR_len]; omega
                      have cf := hLc' (t * 4 + 3) _ (rCells_at (upR y' t last) t htl).2.2.2
                      generalize (upR y' t last)[t].t = oldt at cf
                      have Hset : Hid ((rCells (upR y' t last)).set (t * 4 + 3) (.int .i64 y') = rCells (upR y' (t + 1) last)) := Lib.hid (upR_step y' t last (by omega))
                      have htn' : (t : Int) < (ln : Int) := by omega
                      have ht0 : (0 : Int) ≤ (t : Int) := by omega
                      have hwq1 : IntKind.i64.wrap ((q : Int) + 1) = (q : Int) + 1 := IntWalk.i64_in _ (by omega)
                      have hq01 : (0 : Int) ≤ (q : Int) + 1 := by omega
                      clear hLfr' hLc'
                      go_wp2
                      go_roundw
                      case rel => exact ⟨t + 1, by omega, by go_num, by rw [← Hset.out]; exact own_setN Hown5.out _ _, only_setCell Hg5.out (.inl rfl) _⟩
                      case measure => simp [intOf]; omega
                    · have htn' : ¬ (t : Int) < (ln : Int) := by omega
                      have Hup : Hid (upR y' t last = last.map fun q => ⟨q.l, q.b, q.r, y'⟩) := Lib.hid (upR_end y' t last (by omega))
                      rw [Hup.out] at Hown5
                      go_wp2
                      go_roundw
                      case rel =>
                        refine ⟨q + 1, y', nxt, out, last.map fun q => ⟨q.l, q.b, q.r, y'⟩, by omega, by go_num, Hy'.out, Hexted, Hrun2, Hnxt, own_other Hown3.out Hg5.out (fun g h e => ?_), by rw [List.length_map, hll]; exact Hown5.out, Lib.hid (fun g h => ?_), Hbo5.out⟩
                        · injection e with e
                          exact Hdis.out g h (by rw [e]; rfl)
                        · exact Hdis.out g h
                      case measure => simp [intOf]; omega
                · have Hno : Hid (¬ (last ≠ [] ∧ lr last = lr bl)) := Lib.hid (fun h => hlr h.2)
                  have Hpushed := Lib.hid (Hpush.out Hno.out)
                  have hld : decide (lr last = lr bl) = false := decide_eq_false hlr
                  obtain ⟨rs, hrs⟩ : ∃ rs : Bool, decide (lr last = lr bl) = rs := ⟨_, rfl⟩
                  rw [hrs] at Hsame hld
                  subst hld
                  clear hrs hlr Hno
                  refine wp_region_below wr.heap.size (Nat.le_refl _) (by kernel_rfl) (by kernel_rfl) ?_
                  intro I _ F hFc hFb hFs
                  have kl := fun i => (hFc i gl 3 hgll).trans c3
                  have ky := fun i => (hFc i yb (yo + q) hyb).trans cy0
                  repeat (go_big_quiet_step ((first
                    | (go_at_call 130; exact class_call hFb hFs (Nat.le_refl _) (Hsame.out _ (hFb _))))))
                  refine wpQuiet_nil ?_
                  rintro _ ⟨iq, rfl⟩
                  generalize hw3 : F iq = w3
                  have Hb3 : Hid (Below wr.heap.size wr w3) := Lib.hid (by rw [← hw3]; exact hFb iq)
                  have hs3 := Hb3.out.size
                  have Hown3 : Hid (w3.ownsRow wo.heap.size 68 4 u13 out.length (rCells out)) := Lib.hid (ownsRow_below Hown2.out Hb3.out)
                  have HLr : Hid (Reads w3 w3.heap.size 4 (some ⟨gl, 0, none⟩) ln (rCells last)) := Lib.hid ((HLs.out.below Hb3.out).lies.reads (by rw [rCells_len, Hln.out]))
                  have hso3 : wo.heap.size ≤ w3.heap.size := by omega
                  have hnew : out.length + ln ≤ 40000000000 := hoff
                  clear hw3 hFc hFb hFs kl ky
                  go_upto_region 30 with fail
                  go_wp2_with (at_builtin
                               refine wpList_append_any _ rfl (.tmp 170) (.tmp 171) _ rfl wo.heap.size 68 i0 _ 4 32 Tryz.underlying31 hi hz0 hz1 hz2 rfl (by omega) _ out.length (rCells out) rfl
                                 Hown3.out w3.heap.size (some ⟨gl, 0, none⟩) ln lc (rCells last) rfl HLr.out (rCells_one last) (by simp only [maxLen]; omega) (by omega) hso3 ?_
                               intro v5 w5 hown5 hg5 hat5)
                  go_roundw
                  case rel =>
                    have h1 := Hb1.out
                    have h2 := Hbr.out
                    have h3 := Hb3.out
                    have hbase : ∀ g, (Value.slice Bd bl.length bc).ownBlock = some g → w1.heap.size ≤ g ∧ g < w3.heap.size := fun g h => by
                      have := Hbown.out.lt g h
                      exact ⟨this.1, by omega⟩
                    refine ⟨q + 1, y', nxt, out ++ last, bl, by omega, by go_num, Hy'.out, Hpushed, Hrun2, Hnxt, ?_, ?_, Lib.hid ?_, ?_⟩
                    · rw [List.length_append, rCells_app, Hln.out]
                      exact hown5
                    · exact own_rebase (own_other (ownsRow_below Hbown.out h3) hg5 (fun g h e => by have := hlow13.out g e; have := hbase g h; omega)) hs1
                    · intro g hg e
                      have hb := hbase g e
                      rcases hat5 with h | h
                      · rw [h] at hg
                        have := hlow13.out g hg
                        omega
                      · rw [h] at hg
                        injection hg with hg
                        omega
                    · exact Below.grown ((h1.trans (h2.mono hs1)).trans (h3.mono (by omega))) hg5 hso3 (own_base Hown3.out)
                  case measure => simp [intOf]; omega
        · have hqn' : ¬ (q : Int) + 1 < (ys.length : Int) := by omega
          have Hend : Hid (combP (howR k) a b = out ++ last) := Lib.hid (by rw [Hcomb.out, ← Hrun.out, foldC_end _ _ _ (by omega), Hst.out.done])
          have Hfl : Hid (out.length + last.length ≤ 40000000000) := Lib.hid (by
            have h1 := flat_len 200000 acc Hacc.out.2
            have h2 := congrArg List.length Hst.out.done
            have h3 := Hacc.out.1
            rw [List.length_append] at h2
            have h4 : acc.length * 200000 ≤ 200000 * 200000 := Nat.mul_le_mul_right _ (by omega)
            omega)
          obtain ⟨Ld, lc, hLe, hLl, hLc, hLm⟩ := own_slice Hlown.out
          subst hLe
          have HLr : Hid (Reads w1 w1.heap.size 4 Ld last.length (rCells last)) := Lib.hid (hLl.reads (by rw [rCells_len]))
          obtain ⟨ln, hln⟩ : ∃ ln, last.length = ln := ⟨_, rfl⟩
          have hoff : out.length + ln ≤ 40000000000 := by have := Hfl.out; omega
          rw [hln] at HLr ⊢
          have Hln := Lib.hid hln
          clear hln hLl hLm hb1
          go_wp2_with (at_builtin
                       refine wpList_append_any _ rfl (.tmp 174) (.tmp 175) _ rfl wo.heap.size 68 i0 _ 4 32 Tryz.underlying31 hi hz0 hz1 hz2 rfl (by omega) _ out.length (rCells out) rfl
                         Hown.out w1.heap.size Ld ln lc (rCells last) rfl HLr.out (rCells_one last) (by simp only [maxLen]; omega) (by omega) hs1 ?_
                       intro v5 w5 hown5 hg5 hat5)
          go_ret
          refine ⟨v5, rfl, ?_, ?_⟩
          · rw [Hend.out, List.length_append, rCells_app, Hln.out]
            exact own_rebase hown5 (by omega)
          · have h1 := Hwa.out
            have h2 := Hbo.out
            have h3 := Hb1.out
            exact Below.grown ((h1.trans (h2.mono (by omega))).trans (h3.mono (by omega))) hg5 (by omega) (fun g h => by have := own_base Hown.out g h; omega)
end Go.Proofs.YtfmkmhhghmdakaaGreatDoor
