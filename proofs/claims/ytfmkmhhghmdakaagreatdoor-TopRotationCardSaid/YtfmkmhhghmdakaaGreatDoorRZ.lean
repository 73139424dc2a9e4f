import Derived.Test.YtfmkmhhghmdakaaGreatDoorSh15
import Derived.Lib.OwnBridge
import Derived.Sort.OwnSortedInts
import Derived.Test.YtfmkmhhghmdakaaGreatDoorRG
import Derived.Test.YtfmkmhhghmdakaaGreatDoorRI
import Derived.Test.YtfmkmhhghmdakaaGreatDoorRL
import Derived.Test.YtfmkmhhghmdakaaGreatDoorRN
import Derived.Test.YtfmkmhhghmdakaaGreatDoorRP
import Derived.Test.YtfmkmhhghmdakaaGreatDoorRS
import Derived.Test.YtfmkmhhghmdakaaGreatDoorRY
namespace Go.Proofs.YtfmkmhhghmdakaaGreatDoor
open Go.RowKit Go.Shelf Go.Lib Go.Sort
set_option linter.unusedVariables false
set_option linter.unusedSimpArgs false
set_option maxHeartbeats 64000000
set_option maxRecDepth 100000
instance : Inhabited (Rc × LV) := ⟨(⟨0, 0, []⟩, ⟨none, 0⟩)⟩
theorem flatK_rcCells (l : RcL) : (Sort.flatK rcC 3 l.toArray).toList = rcCells l := by
  apply List.ext_getElem?
  intro j
  by_cases hj : j < l.length * 3
  · have hi : j / 3 < l.length := by omega
    have h1 := rcCells_at l (j / 3) hi
    have e : (Sort.flatK rcC 3 l.toArray).toList[j]? = some (rcC l[j / 3])[j % 3]! := by
      rw [Array.getElem?_toList]
      simp [Sort.flatK, hj, hi]
    rw [e]
    rcases (show j % 3 = 0 ∨ j % 3 = 1 ∨ j % 3 = 2 by omega) with h0 | h0 | h0
    · have e2 : j = j / 3 * 3 := by omega
      rw [h0]
      conv => rhs; rw [e2]
      rw [h1.1]; rfl
    · have e2 : j = j / 3 * 3 + 1 := by omega
      rw [h0]
      conv => rhs; rw [e2]
      rw [h1.2.1]; rfl
    · have e2 : j = j / 3 * 3 + 2 := by omega
      rw [h0]
      conv => rhs; rw [e2]
      rw [h1.2.2]; rfl
  · rw [List.getElem?_eq_none (by simp; omega), List.getElem?_eq_none (by rw [rcCells_len]; omega)]
def cmpRc (x y : Rc × LV) : Int := rcCmp x.1 y.1
instance (a b : Rc) : Decidable (rcLt a b) := by unfold rcLt; infer_instance
theorem rcCmp_neg (x y : Rc) : rcCmp x y < 0 ↔ rcLt x y := by
  unfold rcCmp orI rcLt
  rcases cI_cases x.yr y.yr with ⟨h, h'⟩ | ⟨h, h'⟩ | ⟨h, h'⟩ <;> rcases cI_cases x.cr y.cr with ⟨k, k'⟩ | ⟨k, k'⟩ | ⟨k, k'⟩ <;> rw [h, k] <;> simp <;> omega
theorem ltRc (x y : Rc × LV) : ltOf cmpRc x y = decide (rcLt x.1 y.1) := by
  unfold ltOf cmpRc
  exact decide_eq_decide.2 (rcCmp_neg x.1 y.1)
theorem swoRc : Sort.SWO (ltOf cmpRc) where
  irrefl x := by rw [ltRc]; simp [rcLt]
  trans x y z h1 h2 := by rw [ltRc, decide_eq_true_iff] at h1 h2 ⊢; unfold rcLt at *; omega
  ntrans x y z h1 h2 := by rw [ltRc, decide_eq_false_iff_not] at h1 h2 ⊢; unfold rcLt at *; omega
theorem compareRc_gr (x y : Rc) (v u : LV) (w : World) : Calls Tryz.prog 119 #[.agg #[.int .i64 x.yr, .int .i64 x.cr, .slice v.a x.rg.length v.c], .agg #[.int .i64 y.yr, .int .i64 y.cr, .slice u.a y.rg.length u.c]] w fun e w' => e = .returned (.int .i64 (rcCmp x y)) ∧ Gr w w' := by
  obtain ⟨a, b, ra⟩ := x
  obtain ⟨c, d, rc⟩ := y
  have Hc1 := Lib.hid (fun W => cmpI_any a c W)
  have Hc2 := Lib.hid (fun W => cmpI_any b d W)
  have Hr : Hid (rcCmp ⟨a, b, ra⟩ ⟨c, d, rc⟩ = orI (cI a c) (cI b d)) := Lib.hid rfl
  generalize rcCmp ⟨a, b, ra⟩ ⟨c, d, rc⟩ = res at *
  generalize cI a c = c1 at *
  generalize cI b d = c2 at *
  dsimp only at *
  generalize ra.length = na at *
  generalize rc.length = nc at *
  go_enter Tryz.func119, Tryz.ntmps119
  go_upto_region 1 with fail
  obtain ⟨wa, hwa⟩ : ∃ wa : World, wa = (w.alloc (.cells #[.int .i64 a, .int .i64 b, .slice v.a na v.c] 172)).alloc (.cells #[.int .i64 c, .int .i64 d, .slice u.a nc u.c] 172) := ⟨_, rfl⟩
  rw [← hwa]
  have HG : Hid (wa.heap[w.heap.size]? = some (.cells #[.int .i64 a, .int .i64 b, .slice v.a na v.c] 172 (0, 0))) := Lib.hid (by rw [hwa]; exact (Below.heap_alloc _ _ _ (by simp)).trans (heap_alloc_new w _))
  have HE : Hid (wa.heap[w.heap.size + 1]? = some (.cells #[.int .i64 c, .int .i64 d, .slice u.a nc u.c] 172 (0, 0))) := Lib.hid (by rw [hwa]; exact heap_alloc2_new w _ _)
  have Hga : Hid (Gr w wa) := Lib.hid (by rw [hwa]; exact ((Gr.refl w).alloc _).alloc _)
  have hlE : w.heap.size + 1 < wa.heap.size := by rw [hwa]; simp
  clear hwa
  have hlG : w.heap.size < wa.heap.size := by omega
  have a0 := cell_of_row wa w.heap.size 0 _ _ _ HG.out
  have a1 := cell_of_row wa w.heap.size 1 _ _ _ HG.out
  have b0 := cell_of_row wa (w.heap.size + 1) 0 _ _ _ HE.out
  have b1 := cell_of_row wa (w.heap.size + 1) 1 _ _ _ HE.out
  have Hor := Lib.hid (orI_any wa.heap.size c1 c2 (wa.alloc (.cells #[.int .i64 c1, .int .i64 c2] 3)).drew (cell_of_row _ _ 0 _ _ _ (heap_alloc_new wa _)) (cell_of_row _ _ 1 _ _ _ (heap_alloc_new wa _)))
  have Hg2 : Hid (Gr w (wa.alloc (.cells #[.int .i64 c1, .int .i64 c2] 3)).drew) := Lib.hid ((Hga.out.alloc _).drew)
  rw [← Hr.out] at Hor
  go_region_held3 (fun w' => w'.cell? ⟨w.heap.size, 0, none⟩ = some (.int .i64 a) ∧ w'.cell? ⟨w.heap.size, 1, none⟩ = some (.int .i64 b) ∧ w'.cell? ⟨w.heap.size + 1, 0, none⟩ = some (.int .i64 c) ∧ w'.cell? ⟨w.heap.size + 1, 1, none⟩ = some (.int .i64 d))
    (first | exact ⟨a0, a1, b0, b1⟩ | exact ⟨(World.cell?_alloc_lt wa _ ⟨w.heap.size, 0, none⟩ hlG).trans a0, (World.cell?_alloc_lt wa _ ⟨w.heap.size, 1, none⟩ hlG).trans a1, (World.cell?_alloc_lt wa _ ⟨w.heap.size + 1, 0, none⟩ hlE).trans b0, (World.cell?_alloc_lt wa _ ⟨w.heap.size + 1, 1, none⟩ hlE).trans b1⟩ | go_keep)
    (first
      | (go_at_call_of 171 (Value.int IntKind.i64 c); refine (Hc1.out _).mono ?_; rintro e w1 ⟨rfl, rfl⟩)
      | (go_at_call_of 171 (Value.int IntKind.i64 d); refine (Hc2.out _).mono ?_; rintro e w1 ⟨rfl, rfl⟩)
      | (go_at_call 170; refine Hor.out.mono ?_; rintro e w1 ⟨rfl, rfl⟩)
      | fail)
  all_goals go_wp2
  all_goals go_ret
  all_goals exact ⟨rfl, Hg2.out⟩
theorem sortRc_own {base : Nat} {v : Value} {l : RcL} (w : World) (h : w.ownsRow base 172 3 v l.length (rcCells l)) (hl : l.length < 4611686018427387904) :
    Calls Tryz.prog 118 #[v, .func (.func 119) #[] #[]] w fun e w' => e = .returned (.tuple #[]) ∧ ∃ ss : RcL, ss.Perm l ∧ ss.Pairwise (fun a b => ¬ rcLt b.1 a.1) ∧ w'.ownsRow base 172 3 v ss.length (rcCells ss) ∧ w.grownBy w' v.ownBlock := by
  obtain ⟨h1, h2⟩ := h
  rcases h2 with ⟨rfl, h0⟩ | ⟨g, cap, cur, rfl, hb, hg, hc, hm, hs, ht⟩
  · have hnil : l = [] := List.length_eq_zero_iff.1 h0
    subst hnil
    refine (AnyF.slices_SortFunc_none Tryz.laySortRc none 0 _ w).mono ?_
    rintro e w' ⟨rfl, rfl⟩
    exact ⟨rfl, [], List.Perm.refl _, List.Pairwise.nil, World.ownsRow_nil _ _ _ _, World.grownBy.refl _ _⟩
  · have hlt : g < w.heap.size := by
      rcases Nat.lt_or_ge g w.heap.size with h | h
      · exact h
      · rw [Array.getElem?_eq_none h] at hg; cases hg
    have eg : ∀ args w, (callFunc 119 args).run Tryz.prog w = .ok (.enter 119 args) w := enters_of Tryz.func119 (by kernel_rfl) rfl
    have hH : HoldsK rcC 3 w g 0 l.toArray := by
      intro j hj
      have hj' : j < l.length * 3 := by simpa using hj
      refine ⟨?_, by simp [World.frozen?, hg]⟩
      have e1 : (cur.toList.take (l.length * 3))[j]? = (rcCells l)[j]? := by rw [ht]
      rw [List.getElem?_take, if_pos hj', Array.getElem?_toList, ← flatK_rcCells, Array.getElem?_toList] at e1
      simp only [World.cell?, hg, Nat.zero_add]
      simp only [Option.isSome_none, Bool.false_eq_true, if_false]
      rw [e1]
      simp [getElem!_pos, hj']
    refine (AnyQ.slices_SortFunc Tryz.laySortRc 3 Tryz.isAgg172 Tryz.sizeOf172 rcC (fun _ => rfl) (fun x v hv => by simp [rcC] at hv; rcases hv with rfl | rfl | rfl <;> rfl) cmpRc swoRc 119 #[] g 0 cap l.toArray w eg (fun _ _ _ _ x y => compareRc_gr x.1 y.1 x.2 y.2 _) hH hlt (by simpa using hl)).mono ?_
    rintro e w' ⟨rfl, d', n, os, ⟨hsz, _, hperm⟩, hso, rfl⟩
    have hsz' : d'.toList.length = l.length := by simpa using hsz
    have e1 : d'.extract 0 l.toArray.size = d' := by rw [← hsz]; exact Array.extract_size
    rw [e1, Array.extract_size] at hperm
    have hgr : w.grownBy (sortWorldK rcC 3 w g 0 n d' os) (some g) := by
      refine ⟨rfl, rfl, rfl, by simp [sortWorldK, putRowK, Sort.putRow, Sort.mapBlock, Sort.ahead, Sort.grow], fun k hk hne => ?_⟩
      unfold sortWorldK
      rw [heap_grow_old _ _ (by simpa [putRowK, Sort.putRow, Sort.mapBlock, Sort.ahead] using hk)]
      have : g ≠ k := fun e => hne (by rw [e])
      simp [putRowK, Sort.putRow, Sort.mapBlock, Sort.ahead, Array.getElem?_modify, this]
    refine ⟨rfl, d'.toList, by simpa using hperm, ?_, ?_, hgr⟩
    · rw [List.pairwise_iff_getElem]
      intro i j hi hj hij
      have hi' : i < d'.size := by simpa using hi
      have hj' : j < d'.size := by simpa using hj
      have := hso i j (Nat.zero_le _) hij (by rw [← hsz]; exact hj')
      rw [getElem!_pos d' j hj', getElem!_pos d' i hi', ltRc, decide_eq_false_iff_not] at this
      intro h
      exact this h
    · rw [hsz']
      refine ⟨by rw [rcCells_len, hsz'], .inr ⟨g, cap, putCells id 0 (flatK rcC 3 d') cur, rfl, hb, ?_, hc, hm, by simpa [putCells] using hs, ?_⟩⟩
      · unfold sortWorldK
        rw [heap_grow_old _ _ (by simpa [putRowK, Sort.putRow, Sort.mapBlock, Sort.ahead] using hlt)]
        simp [putRowK, Sort.putRow, Sort.mapBlock, Sort.ahead, Array.getElem?_modify, hg, onCells]
      · have ef : (flatK rcC 3 d').toList = rcCells d'.toList := by have := flatK_rcCells d'.toList; simpa using this
        rw [← ef]
        apply List.ext_getElem?
        intro j
        rw [List.getElem?_take, Array.getElem?_toList, Array.getElem?_toList]
        by_cases hj : j < l.length * 3
        · have hjc : j < cur.size := by rw [hs]; exact Nat.lt_of_lt_of_le hj (Nat.mul_le_mul_right 3 hc)
          have hsz2 : d'.size = l.length := by simpa using hsz
          simp only [if_pos hj, putCells, Array.getElem?_mapIdx, Array.getElem?_eq_getElem hjc, Option.map_some]
          rw [if_pos (by simp; omega)]
          simp [getElem!_pos, hsz2, hj]
        · have hsz2 : d'.size = l.length := by simpa using hsz
          rw [if_neg hj]
          rw [Array.getElem?_eq_none (by simp [hsz2]; omega)]
end Go.Proofs.YtfmkmhhghmdakaaGreatDoor
namespace Go.Proofs.YtfmkmhhghmdakaaGreatDoor
open Go.RowKit Go.Shelf Go.Maps
set_option linter.unusedVariables false
set_option linter.unusedSimpArgs false
set_option maxHeartbeats 64000000
set_option maxRecDepth 100000
theorem sq3R {w : World} {g : Nat} {t : TypeId} {a b c x y z : Value} (h : w.heap[g]? = some (.cells #[a, b, c] t (0, 0))) : (((w.setCell ⟨g, 0, none⟩ x).setCell ⟨g, 1, none⟩ y).setCell ⟨g, 2, none⟩ z).heap[g]? = some (.cells #[x, y, z] t (0, 0)) := by
  have h1 := heap_setCell_same w g 0 _ _ x h
  have h2 := heap_setCell_same _ g 1 _ _ y h1
  have h3 := heap_setCell_same _ g 2 _ _ z h2
  rw [h3]
  simp
theorem sq3R_only {w : World} {g : Nat} {x y z : Value} : w.grownBy (((w.setCell ⟨g, 0, none⟩ x).setCell ⟨g, 1, none⟩ y).setCell ⟨g, 2, none⟩ z) (some g) :=
  only_setCell (only_setCell (only_setCell (World.grownBy.refl _ (some g)) (.inl rfl) _) (.inl rfl) _) (.inl rfl) _
theorem sq3R_below {w w0 : World} {g k : Nat} {x y z : Value} (h : Below k w0 w) (hg : k ≤ g) : Below k w0 (((w.setCell ⟨g, 0, none⟩ x).setCell ⟨g, 1, none⟩ y).setCell ⟨g, 2, none⟩ z) := ((h.setCell hg _).setCell hg _).setCell hg _
theorem copiedRc_any (x : Rc) (v : LV) (B : Option Addr) (m d : Nat) (P : List R4) (w : World) (hB : SlR w B m d P) (hm : m ≤ 1000000) :
    Calls Tryz.prog 113 #[.agg #[.int .i64 x.yr, .int .i64 x.cr, .slice v.a x.rg.length v.c], .slice B m d] w fun e w' => ∃ u : LV, e = .returned (.agg #[.int .i64 x.yr, .int .i64 x.cr, .slice u.a m u.c]) ∧ w'.ownsRow w.heap.size 68 4 (.slice u.a m u.c) m (rCells P) ∧ Below w.heap.size w w' := by
  have HC := Lib.hid (fun W (h : Below w.heap.size w W) => cloneR_any B m d P W (hB.below h) hm)
  clear hB
  generalize x.rg.length = nx at *
  go_enter Tryz.func113, Tryz.ntmps113
  go_upto_region 1 with fail
  obtain ⟨w1, hw1⟩ : ∃ w1 : World, w1 = (w.alloc (.cells #[.int .i64 x.yr, .int .i64 x.cr, .slice v.a nx v.c] 172)).alloc (.cells #[.int .i64 0, .int .i64 0, .slice none 0 0] 172) := ⟨_, rfl⟩
  rw [← hw1]
  have Hr1 : Hid (w1.heap[w.heap.size]? = some (.cells #[.int .i64 x.yr, .int .i64 x.cr, .slice v.a nx v.c] 172 (0, 0))) := Lib.hid (by rw [hw1]; exact (Below.heap_alloc _ _ _ (by simp)).trans (heap_alloc_new w _))
  have Hz1 : Hid (w1.heap[w.heap.size + 1]? = some (.cells #[.int .i64 0, .int .i64 0, .slice none 0 0] 172 (0, 0))) := Lib.hid (by rw [hw1]; exact heap_alloc2_new w _ _)
  have Hb1 : Hid (Below w.heap.size w w1) := Lib.hid (by rw [hw1]; exact gBel)
  have hs1 : w.heap.size + 1 < w1.heap.size := by rw [hw1]; simp
  clear hw1
  go_upto_region 2 with (first
    | (go_at_call 109
       refine (HC.out _ Hb1.out).mono ?_
       rintro e w4 ⟨v4, rfl, hown4, hb4⟩
       obtain ⟨A4, c4, rfl, _, _, _⟩ := own_slice hown4
       have Hown4 := Lib.hid (own_rebase (base' := w.heap.size + 1 + 1) hown4 (by omega))
       have hr4 := (hb4.block w.heap.size (by omega)).trans Hr1.out
       have Hr4 := Lib.hid hr4
       have Hz4 := Lib.hid ((hb4.block (w.heap.size + 1) hs1).trans Hz1.out)
       have Hb4 := Lib.hid (Hb1.out.trans (hb4.mono (by omega)))
       have hs4 : w.heap.size + 1 < w4.heap.size := Nat.lt_of_lt_of_le hs1 hb4.size
       have z2 := cell_of_row _ _ 2 _ _ _ hr4
       have f2 := frozen_of_row _ _ 2 _ _ hr4
       clear hown4 hb4 hr4)
    | fail)
  obtain ⟨w5, hw5⟩ : ∃ w5 : World, w5 = w4.setCell ⟨w.heap.size, 2, none⟩ (.slice A4 m c4) := ⟨_, rfl⟩
  rw [← hw5]
  have hr5 : w5.heap[w.heap.size]? = some (.cells #[.int .i64 x.yr, .int .i64 x.cr, .slice A4 m c4] 172 (0, 0)) := by
    rw [hw5, heap_setCell_same w4 w.heap.size 2 _ _ _ Hr4.out]
    simp
  have hg5 : w4.grownBy w5 (some w.heap.size) := by rw [hw5]; exact only_setCell (World.grownBy.refl _ _) (.inl rfl) _
  have hz5 : w5.heap[w.heap.size + 1]? = some (.cells #[.int .i64 0, .int .i64 0, .slice none 0 0] 172 (0, 0)) := (hg5.block (w.heap.size + 1) hs4 (by intro e; injection e; omega)).trans Hz4.out
  have Hown5 := Lib.hid (ownsRow_only (base := w.heap.size + 1 + 1) Hown4.out hg5 (by omega))
  have Hb5 : Hid (Below w.heap.size w w5) := Lib.hid (by rw [hw5]; exact Hb4.out.setCell (Nat.le_refl _) _)
  have a0 := cell_of_row _ _ 0 _ _ _ hr5
  have a1 := cell_of_row _ _ 1 _ _ _ hr5
  have a2 := cell_of_row _ _ 2 _ _ _ hr5
  have b0 := cell_of_row _ _ 0 _ _ _ hz5
  have b1 := cell_of_row _ _ 1 _ _ _ hz5
  have b2 := cell_of_row _ _ 2 _ _ _ hz5
  have g0 := frozen_of_row _ _ 0 _ _ hz5
  have g1 := frozen_of_row _ _ 1 _ _ hz5
  have g2 := frozen_of_row _ _ 2 _ _ hz5
  have Hz5 := Lib.hid hz5
  clear hw5 hr5 hg5 hz5 z2 f2
  go_wp2
  have hz9 := sq3R (x := .int .i64 x.yr) (y := .int .i64 x.cr) (z := .slice A4 m c4) Hz5.out
  have y0 := cell_of_row _ _ 0 _ _ _ hz9
  have y1 := cell_of_row _ _ 1 _ _ _ hz9
  have y2 := cell_of_row _ _ 2 _ _ _ hz9
  refine bodyPost_ret (v := .agg #[.int .i64 x.yr, .int .i64 x.cr, .slice A4 m c4]) (by simp only [results, Tryz.results113, go_sem, y0, y1, y2]; first | rfl | simp [go_sem, *]) rfl ?_
  exact ⟨⟨A4, c4⟩, rfl, own_rebase (own_other Hown5.out sq3R_only (fun k hk e => by injection e with e; have := own_base Hown5.out k hk; omega)) (by omega), sq3R_below Hb5.out (by omega)⟩
theorem add3_any (x : Rc) (v : LV) (w : World) (hx : 0 < x.rg.length) : Calls Tryz.prog 115 #[.agg #[.int .i64 x.yr, .int .i64 x.cr, .slice v.a x.rg.length v.c]] w fun e w' => e = .returned (.bool false) ∧ Below w.heap.size w w' := by
  generalize x.rg.length = nx at *
  have h1 : ¬ (nx : Int) = 0 := by omega
  have h2 : ¬ nx = 0 := by omega
  have h3 : ((nx : Int) == 0) = false := by simp; omega
  go_enter Tryz.func115, Tryz.ntmps115
  go_upto_region 1 with fail
  obtain ⟨w1, hw1⟩ : ∃ w1 : World, w1 = w.alloc (.cells #[.int .i64 x.yr, .int .i64 x.cr, .slice v.a nx v.c] 172) := ⟨_, rfl⟩
  rw [← hw1]
  have hr1 : w1.heap[w.heap.size]? = some (.cells #[.int .i64 x.yr, .int .i64 x.cr, .slice v.a nx v.c] 172 (0, 0)) := by rw [hw1]; exact heap_alloc_new w _
  have Hb1 : Hid (Below w.heap.size w w1) := Lib.hid (by rw [hw1]; exact gBel)
  have d2 := cell_of_row _ _ 2 _ _ _ hr1
  clear hw1 hr1
  go_wp2
  go_ret
  exact ⟨rfl, Hb1.out⟩
theorem add4_any (x : Rc) (v : LV) (w : World) (hx : x.rg.length ≤ 120) : Calls Tryz.prog 117 #[.agg #[.int .i64 x.yr, .int .i64 x.cr, .slice v.a x.rg.length v.c]] w fun e w' => e = .returned (.bool false) ∧ Below w.heap.size w w' := by
  generalize x.rg.length = nx at *
  have h1 : ¬ (120 : Int) < (nx : Int) := by omega
  have h2 : ¬ 120 < nx := by omega
  go_enter Tryz.func117, Tryz.ntmps117
  go_upto_region 1 with fail
  obtain ⟨w1, hw1⟩ : ∃ w1 : World, w1 = w.alloc (.cells #[.int .i64 x.yr, .int .i64 x.cr, .slice v.a nx v.c] 172) := ⟨_, rfl⟩
  rw [← hw1]
  have hr1 : w1.heap[w.heap.size]? = some (.cells #[.int .i64 x.yr, .int .i64 x.cr, .slice v.a nx v.c] 172 (0, 0)) := by rw [hw1]; exact heap_alloc_new w _
  have Hb1 : Hid (Below w.heap.size w w1) := Lib.hid (by rw [hw1]; exact gBel)
  have d2 := cell_of_row _ _ 2 _ _ _ hr1
  clear hw1 hr1
  go_wp2
  go_ret
  exact ⟨rfl, Hb1.out⟩
theorem indexRc_none (f : Nat) (lb : Array Value) (A : Option Addr) (n c : Nat) (l : RcL) (w : World) (hA : SlRc w A n c l) (eg : ∀ args w, (callFunc f args).run Tryz.prog w = .ok (.enter f args) w) (hp : PredRc f lb (fun _ => false) l w) :
    Calls Tryz.prog 208 #[.slice A n c, .func (.func f) #[] lb] w fun e w' => e = .returned (.int .i64 (-1)) ∧ Below w.heap.size w w' := by
  have hcap := hA.cap
  have htop := hA.top
  unfold maxLen at htop
  have HA := Lib.hid hA
  have Hln := Lib.hid hA.len
  have HP := Lib.hid hp
  clear hA hp
  go_enter Tryz.func208, Tryz.ntmps208
  go_upto_region 2 with fail
  go_loopw [5, 8] (fun _ iv wr => ∃ k : Nat, k ≤ n ∧ iv = .int .i64 (k : Int) ∧ Below w.heap.size w wr) (fun _ iv _ => n - (intOf iv).toNat)
  case atStart => exact ⟨0, Nat.zero_le _, rfl, Below.refl _ _⟩
  case round =>
    obtain ⟨k, hk, rfl, hbw⟩ := hrel
    obtain ⟨wo, rfl⟩ : ∃ wo : World, wo = wr := ⟨_, rfl⟩
    have Hbw := Lib.hid hbw
    have hsw := hbw.size
    clear hbw
    by_cases hkn : k < n
    · have hkn' : (k : Int) < (n : Int) := by omega
      have hkl : k < l.length := by rw [Hln.out]; exact hkn
      obtain ⟨b, off, rfl, hbl, c0, c1, c2, hS⟩ := (HA.out.below Hbw.out).at k hkl
      have HO := Lib.hid (HP.out wo Hbw.out l[k] (List.getElem_mem hkl))
      obtain ⟨x, hx⟩ : ∃ x, x = l[k] := ⟨_, rfl⟩
      rw [← hx] at c0 c1 c2 HO
      clear hS hx
      go_wp2_with (first
        | (go_at_fn f; refine HO.out.mono ?_; rintro e w2 ⟨rfl, hb2⟩; have Hb2 := Lib.hid (Hbw.out.trans (hb2.mono hsw)); clear hb2)
        | fail)
      go_roundw
      case rel => exact ⟨k + 1, by omega, by go_num, Hb2.out⟩
      case measure => simp [intOf]; omega
    · have hkn' : ¬ (k : Int) < (n : Int) := by omega
      go_wp2
      go_ret
      exact ⟨rfl, Hbw.out⟩
theorem deleteRc_none (A : Option Addr) (n c : Nat) (l : RcL) (w : World) (hA : SlRc w A n c l) (hp : ∀ x ∈ l, 0 < x.1.rg.length) :
    Calls Tryz.prog 114 #[.slice A n c, .func (.func 115) #[] #[]] w fun e w' => e = .returned (.slice A n c) ∧ Below w.heap.size w w' := by
  have HI := Lib.hid (indexRc_none 115 #[] A n c l w hA (enters_of Tryz.func115 (by kernel_rfl) rfl) (fun W hW x hx => by
    show Calls Tryz.prog 115 #[.agg #[.int .i64 x.1.yr, .int .i64 x.1.cr, .slice x.2.a x.1.rg.length x.2.c]] W _
    exact add3_any x.1 x.2 W (hp x hx)))
  clear hA hp
  go_enter Tryz.func114, Tryz.ntmps114
  go_wp2_with (first
    | (go_at_call 208; refine HI.out.mono ?_; rintro e w1 ⟨rfl, hb1⟩; have Hb1 := Lib.hid hb1; clear hb1)
    | fail)
  go_ret
  exact ⟨rfl, Hb1.out⟩
theorem add1_fn (w : World) : BoolFn 111 #[] orB w := by
  intro W x y _
  show Calls Tryz.prog 111 #[.bool x, .bool y] W _
  cases x <;> cases y
  all_goals go_enter Tryz.func111, Tryz.ntmps111
  all_goals go_wp2
  all_goals go_ret
  all_goals exact ⟨rfl, gBel⟩
theorem add2_fn (w : World) : BoolFn 112 #[] notB w := by
  intro W x y _
  show Calls Tryz.prog 112 #[.bool x, .bool y] W _
  cases x <;> cases y
  all_goals go_enter Tryz.func112, Tryz.ntmps112
  all_goals go_wp2
  all_goals go_ret
  all_goals exact ⟨rfl, gBel⟩
def AddHPost (w : World) (l : RcL) (y nc : Int) (a : List R4) (B : List Int) (e : Ending) (w' : World) : Prop :=
  ∃ (m : RcL) (v : Value), e = .returned (.tuple #[v, .int .i64 0]) ∧ RcOwn w' w.heap.size v m ∧ HyW nc (rcs m) ∧ m.length ≤ l.length + 1 ∧ (∀ x ∈ rcs m, x.yr = y → InB B x.rg) ∧ (∀ x ∈ rcs m, x.yr = y ∨ ∃ z ∈ rcs l, x.yr = z.yr) ∧ (∀ x ∈ rcs m, x.yr = y → ∀ p q, inL x.rg p q = true → inL a p q = true ∨ ∃ z ∈ rcs l, z.yr = y ∧ inL z.rg p q = true) ∧ Below w.heap.size w w'
theorem SlR.ofRow9 {w : World} {base : Nat} {v : LV} {M : List R4} (h : w.ownsRow base 68 4 (.slice v.a M.length v.c) M.length (rCells M)) : SlR w v.a M.length v.c M := by
  obtain ⟨A2, c2, e, h4⟩ := SlR.of_own h
  injection e with e1 e2 e3
  rw [e1, e3]
  exact h4
theorem mineK_ne {y c : Int} {a : List R4} (ha : InS 30 a) (hane : 0 < a.length) : ∀ {l : List Rc} {m : List R4}, (∀ x ∈ l, InS 30 x.rg) → 0 < m.length → 0 < (l.foldl (mineK y c a) m).length
  | [], m, _, hm => hm
  | x :: t, m, hl, hm => by
    rw [List.foldl_cons]
    refine mineK_ne ha hane (fun z hz => hl z (List.mem_cons_of_mem _ hz)) ?_
    unfold mineK
    split
    · refine Nat.pos_of_ne_zero fun h0 => ?_
      have h1 := (choose_nil (how := Go.Proofs.YtfmkmhhghmdakaaGreatDoor.orB) rfl (hl x (by simp)) ha).1 (List.length_eq_zero_iff.1 h0)
      cases a with
      | nil => simp at hane
      | cons q r =>
        have hq := ha q (by simp)
        have := h1 q.l q.b
        rw [inL_of (List.mem_cons_self) ⟨hq.2.1, by omega⟩] at this
        unfold Go.Proofs.YtfmkmhhghmdakaaGreatDoor.orB at this
        simp at this
    · exact hm
theorem rising {N K : List Rc} (hp : N.Perm K) (hk : K.Pairwise fun a b => ¬ (a.yr = b.yr ∧ a.cr = b.cr)) (hs : N.Pairwise fun a b => ¬ rcLt b a) : N.Pairwise rcLt := by
  have h1 : N.Pairwise fun a b => ¬ (a.yr = b.yr ∧ a.cr = b.cr) := (List.Perm.pairwise_iff (fun {a b} h e => h ⟨e.1.symm, e.2.symm⟩) hp).2 hk
  refine (List.Pairwise.and h1 hs).imp fun {a b} h => ?_
  obtain ⟨h2, h3⟩ := h
  unfold rcLt at *
  omega
theorem keys_apart {l : List Rc} (h : l.Pairwise rcLt) (y c : Int) (a M : List R4) : (l.flatMap (oneW y c a) ++ [(⟨y, c, M⟩ : Rc)]).Pairwise fun p q => ¬ (p.yr = q.yr ∧ p.cr = q.cr) := by
  have hm : ∀ x z, z ∈ oneW y c a x → z.yr = x.yr ∧ z.cr = x.cr ∧ ¬ (x.yr = y ∧ x.cr = c) := fun x z hz => by
    unfold oneW at hz
    split at hz
    · cases hz
    · rw [List.mem_singleton] at hz
      subst hz
      exact ⟨rfl, rfl, by assumption⟩
  refine List.pairwise_append.2 ⟨?_, List.pairwise_singleton _ _, fun p hp q hq => ?_⟩
  · refine pair_flat (R := rcLt) (fun x => by unfold oneW; split <;> simp) h fun p hp q hq hpq x hx z hz => ?_
    obtain ⟨e1, e2, _⟩ := hm p x hx
    obtain ⟨e3, e4, _⟩ := hm q z hz
    rw [e1, e2, e3, e4]
    unfold rcLt at hpq
    omega
  · rw [List.mem_singleton] at hq
    subst hq
    obtain ⟨x, _, hx⟩ := List.mem_flatMap.1 hp
    obtain ⟨e1, e2, e3⟩ := hm x p hx
    rw [e1, e2]
    exact e3
theorem addHist_any (A : Option Addr) (n cl : Nat) (l : RcL) (y c : Int) (u : LV) (a : List R4) (nc : Int) (B : List Int) (w : World) (hA : SlRc w A n cl l) (hl : HyW nc (rcs l)) (hn : n ≤ 100) (hy : 0 ≤ y ∧ y ≤ 100) (hc : 0 ≤ c ∧ c < nc) (hnc : nc ≤ 8) (hB : B.length ≤ 2) (ha : RgB B a) (hane : 0 < a.length) (hya : ∀ x ∈ rcs l, x.yr = y → InB B x.rg) (hda : ∀ x ∈ rcs l, x.yr = y → ∀ p q, ¬ (inL x.rg p q = true ∧ inL a p q = true)) (hu : SlR w u.a a.length u.c a) :
    Calls Tryz.prog 37 #[.slice A n cl, .int .i64 y, .int .i64 c, .agg #[.slice u.a a.length u.c]] w (AddHPost w l y nc a B) := by
  obtain ⟨i0, hi, hz0, hz1, hz2⟩ := info_parts Tryz.infoRc
  have hy0 : ¬ y < 0 := by omega
  have hy1 : ¬ 100 < y := by omega
  have hc0 : ¬ c < 0 := by omega
  have hc1 : ¬ 40 ≤ c := by omega
  have hal : a.length ≤ 90 := by have := ha.len; omega
  have HL := Lib.hid hl
  have HA := Lib.hid hA
  have Hln := Lib.hid hA.len
  have Ha := Lib.hid ha
  have Hane := Lib.hid hane
  have Hya := Lib.hid hya
  have Hda := Lib.hid hda
  have HU := Lib.hid hu
  have HB := Lib.hid hB
  have HK := Lib.hid (fun W (h : Below w.heap.size w W) => checkHy_any A n cl l W (hA.below h) hl.hy)
  have HV := Lib.hid (fun W (h : Below w.heap.size w W) => show Calls Tryz.prog 48 #[.agg #[.slice u.a a.length u.c]] W fun e w' => e = .returned (.bool true) ∧ Below W.heap.size W w' from by
    have h1 := valid_any u.a a.length u.c a W (hu.below h)
    rw [ha.valid hB] at h1
    exact h1)
  clear hA hl ha hane hya hda hu hB
  go_enter Tryz.func37, Tryz.ntmps37
  go_upto_region 1 with fail
  obtain ⟨w1, hw1⟩ : ∃ w1 : World, w1 = w.alloc (.cells #[.slice u.a a.length u.c] 33) := ⟨_, rfl⟩
  rw [← hw1]
  have Hr1 : Hid (w1.heap[w.heap.size]? = some (.cells #[.slice u.a a.length u.c] 33 (0, 0))) := Lib.hid (by rw [hw1]; exact heap_alloc_new w _)
  have Hb1 : Hid (Below w.heap.size w w1) := Lib.hid (by rw [hw1]; exact gBel)
  have hs1 : w.heap.size < w1.heap.size := by rw [hw1]; simp
  clear hw1
  go_upto_region 10 with (first
    | (go_at_call 98
       refine (HK.out _ Hb1.out).mono ?_
       rintro e w2 ⟨rfl, hb2⟩
       have hr2 := (hb2.block w.heap.size hs1).trans Hr1.out
       have Hr2 := Lib.hid hr2
       have e2 := cell_of_row _ _ 0 _ _ _ hr2
       have Hb2 := Lib.hid (Hb1.out.trans (hb2.mono (by omega)))
       have hs2 : w.heap.size < w2.heap.size := Nat.lt_of_lt_of_le hs1 hb2.size
       clear hb2 hr2)
    | (go_at_call 48
       refine (HV.out _ Hb2.out).mono ?_
       rintro e w3 ⟨rfl, hb3⟩
       have hr3 := (hb3.block w.heap.size hs2).trans Hr2.out
       have Hr3 := Lib.hid hr3
       have e3 := cell_of_row _ _ 0 _ _ _ hr3
       have Hb3 := Lib.hid (Hb2.out.trans (hb3.mono (by omega)))
       have hs3 : w.heap.size < w3.heap.size := Nat.lt_of_lt_of_le hs2 hb3.size
       clear hb3 hr3 e2)
    | fail)
  go_upto_region 11 with fail
  obtain ⟨X1, hX1⟩ : ∃ X1, X1 = w3.heap.size := ⟨_, rfl⟩
  obtain ⟨w4, hw4⟩ : ∃ w4 : World, w4 = w3.alloc (.cells #[.int .i64 y, .int .i64 c, .slice u.a a.length u.c] 172) := ⟨_, rfl⟩
  rw [← hw4, ← hX1]
  have Ho4 : Hid (w4.heap[X1]? = some (.cells #[.int .i64 y, .int .i64 c, .slice u.a a.length u.c] 172 (0, 0))) := Lib.hid (by rw [hw4, hX1]; exact heap_alloc_new w3 _)
  have Hb34 : Hid (Below w3.heap.size w3 w4) := Lib.hid (by rw [hw4]; exact gBel)
  have hs4 : w4.heap.size = X1 + 1 := by rw [hw4, hX1]; simp
  have Hs4 := Lib.hid hs4
  have Hr4 : Hid (w4.heap[w.heap.size]? = some (.cells #[.slice u.a a.length u.c] 33 (0, 0))) := Lib.hid ((Hb34.out.block w.heap.size (by omega)).trans Hr3.out)
  have Hb4 : Hid (Below w.heap.size w w4) := Lib.hid (Hb3.out.trans (Hb34.out.mono (by omega)))
  have hXw : w.heap.size < X1 := by omega
  have hX4 : X1 < w4.heap.size := by omega
  clear hw4 hX1 e3 Hr3 Hr2 Hr1 Hb34 hs4
  go_upto_region 13 with fail
  go_loopw [12, 14, 15, 45] (fun ov _ _ iv wr => ∃ (i : Nat) (o : RcL) (q : LV) (M : List R4), i ≤ n ∧ iv = .int .i64 (i : Int) ∧ M = ((rcs l).take i).foldl (mineK y c a) a ∧ wr.heap[X1]? = some (.cells #[.int .i64 y, .int .i64 c, .slice q.a M.length q.c] 172 (0, 0)) ∧ ((M = a ∧ q = u) ∨ (wr.ownsRow (X1 + 1) 68 4 (.slice q.a M.length q.c) M.length (rCells M) ∧ ∀ g, ov.ownBlock = some g → (Value.slice q.a M.length q.c).ownBlock ≠ some g)) ∧ RcOwn wr (X1 + 1) ov o ∧ rcs o = ((rcs l).take i).flatMap (oneW y c a) ∧ wr.heap[w.heap.size]? = some (.cells #[.slice u.a a.length u.c] 33 (0, 0)) ∧ Below w.heap.size w wr ∧ X1 < wr.heap.size) (fun _ _ _ iv _ => n - (intOf iv).toNat)
  case atStart => exact ⟨0, [], u, a, Nat.zero_le _, rfl, by simp, Ho4.out, .inl ⟨rfl, rfl⟩, RcOwn.nil _ _, rfl, Hr4.out, Hb4.out, hX4⟩
  case round =>
    clear Ho4 Hr4 Hb4
    obtain ⟨i, o, q, M, hi', rfl, hM, ho1, hq, hrc, hro, hr0, hbw, hX⟩ := hrel
    obtain ⟨wo, rfl⟩ : ∃ wo : World, wo = wr := ⟨_, rfl⟩
    have HM := Lib.hid hM
    have Ho1 := Lib.hid ho1
    have Hq := Lib.hid hq
    have Hrc := Lib.hid hrc
    have Hro := Lib.hid hro
    have Hr0 := Lib.hid hr0
    have Hbw := Lib.hid hbw
    have hMr := (mineK_rgb (y := y) (c := c) Ha.out (l := (rcs l).take i) (m := a) (fun x hx => ⟨HL.out.ins x (List.mem_of_mem_take hx), (HL.out.hy.ok x (List.mem_of_mem_take hx)).rg, Hya.out x (List.mem_of_mem_take hx)⟩) Ha.out).1
    rw [← hM] at hMr
    have HMr := Lib.hid hMr
    have hMl : M.length ≤ 90 := by have := hMr.len; have := HB.out; omega
    have hol : o.length ≤ i := by
      have h1 := oneW_len y c a ((rcs l).take i)
      rw [← hro, rcs_len, List.length_take] at h1
      omega
    have HSq : Hid (SlR wo q.a M.length q.c M) := Lib.hid (by
      rcases hq with ⟨rfl, rfl⟩ | h
      · exact HU.out.below hbw
      · exact SlR.ofRow9 h.1)
    clear hM ho1 hq hrc hro hr0 hbw hMr
    by_cases hin : i < n
    · have hin' : (i : Int) < (n : Int) := by omega
      have hil : i < l.length := by rw [Hln.out]; exact hin
      obtain ⟨b, off, rfl, hbl, f0, f1, f2, hS⟩ := (HA.out.below Hbw.out).at i hil
      have hmem : l[i].1 ∈ rcs l := List.mem_map_of_mem (List.getElem_mem hil)
      have HXi := Lib.hid (HL.out.ins l[i].1 hmem)
      have hxl : l[i].1.rg.length ≤ 90 := HL.out.len90 hmem
      have HXq := Lib.hid (oneQ_eq HL.out Ha.out.ins Hda.out hmem)
      have HXn := Lib.hid (HL.out.hy.ok l[i].1 hmem).ne
      have Hts : Hid ((rcs l).take (i + 1) = (rcs l).take i ++ [l[i].1]) := Lib.hid (by
        have h := List.take_succ_eq_append_getElem (l := rcs l) (i := i) (by rw [rcs_len]; exact hil)
        rw [h, rcs_get l i hil])
      obtain ⟨x, hx⟩ : ∃ x, x = l[i] := ⟨_, rfl⟩
      rw [← hx] at f0 f1 f2 hS HXi hxl HXq HXn Hts
      have HS := Lib.hid hS
      clear hx hS hmem
      obtain ⟨Y, hY⟩ : ∃ Y, x.1.yr = Y := ⟨_, rfl⟩
      obtain ⟨C, hC⟩ : ∃ C, x.1.cr = C := ⟨_, rfl⟩
      rw [hY] at f0
      rw [hC] at f1
      have HY := Lib.hid hY
      have HCr := Lib.hid hC
      clear hY hC
      go_upto_region 15 with fail
      obtain ⟨wa, hwa⟩ : ∃ wa : World, wa = wo.alloc (.cells #[.int .i64 Y, .int .i64 C, .slice x.2.a x.1.rg.length x.2.c] 172) := ⟨_, rfl⟩
      rw [← hwa]
      obtain ⟨X, hXe⟩ : ∃ X, X = wo.heap.size := ⟨_, rfl⟩
      have Hra : Hid (wa.heap[X]? = some (.cells #[.int .i64 Y, .int .i64 C, .slice x.2.a x.1.rg.length x.2.c] 172 (0, 0))) := Lib.hid (by rw [hwa, hXe]; exact heap_alloc_new wo _)
      have Hba : Hid (Below wo.heap.size wo wa) := Lib.hid (by rw [hwa]; exact gBel)
      have hsa : X < wa.heap.size := by rw [hwa, hXe]; simp
      rw [← hXe]
      have hXo : X1 < X := by omega
      have hXo2 : wo.heap.size ≤ wa.heap.size := Hba.out.size
      have hXle : X ≤ wo.heap.size := by omega
      have Hoa := Lib.hid ((Hba.out.block X1 (by omega)).trans Ho1.out)
      have Hr0a := Lib.hid ((Hba.out.block w.heap.size (by omega)).trans Hr0.out)
      have Hbwa : Hid (Below w.heap.size w wa) := Lib.hid (Hbw.out.trans (Hba.out.mono Hbw.out.size))
      have Hrca := Lib.hid (Hrc.out.below Hba.out)
      have HSa := Lib.hid (HS.out.below Hba.out)
      have HSqa := Lib.hid (HSq.out.below Hba.out)
      have Hqa : Hid ((M = a ∧ q = u) ∨ (wa.ownsRow (X1 + 1) 68 4 (.slice q.a M.length q.c) M.length (rCells M) ∧ ∀ g, u12.ownBlock = some g → (Value.slice q.a M.length q.c).ownBlock ≠ some g)) := Lib.hid (Hq.out.imp id fun h => ⟨ownsRow_below h.1 Hba.out, h.2⟩)
      have a0 := cell_of_row _ _ 0 _ _ _ Hra.out
      have a1 := cell_of_row _ _ 1 _ _ _ Hra.out
      have a2 := cell_of_row _ _ 2 _ _ _ Hra.out
      have r0 := cell_of_row _ _ 0 _ _ _ Hr0a.out
      clear hwa hXe f0 f1 f2
      by_cases hyr : Y = y
      · have hyd : (Y == y) = true := by simp [hyr]
        have hyi : decide (Y = y) = true := decide_eq_true hyr
        have Hyr := Lib.hid hyr
        clear hyr
        by_cases hcr : C = c
        · have hcd : (C == c) = true := by simp [hcr]
          have hci : decide (C = c) = true := decide_eq_true hcr
          have Hcr := Lib.hid hcr
          clear hcr
          have Hmn : Hid (((rcs l).take (i + 1)).foldl (mineK y c a) a = chooseP orB x.1.rg a) := Lib.hid (by
            rw [Hts.out, List.foldl_append]
            exact if_pos ⟨by rw [HY.out]; exact Hyr.out, by rw [HCr.out]; exact Hcr.out⟩)
          have Hon : Hid (((rcs l).take (i + 1)).flatMap (oneW y c a) = rcs o) := Lib.hid (by
            rw [Hts.out, List.flatMap_append, ← Hro.out]
            have e : oneW y c a x.1 = [] := if_pos ⟨by rw [HY.out]; exact Hyr.out, by rw [HCr.out]; exact Hcr.out⟩
            simp [e])
          have hqz := cell_of_row _ _ 2 _ _ _ Hoa.out
          have HC := Lib.hid (choose_any x.2.a u.a x.1.rg.length x.2.c a.length u.c 111 #[] orB x.1.rg a wa HSa.out (HU.out.below Hbwa.out) (by omega) (by omega) HXi.out.pos Ha.out.ins.pos (enters_of Tryz.func111 (by kernel_rfl) rfl) (add1_fn wa))
          generalize chooseP orB x.1.rg a = Q at *
          go_wp2_with (first
            | (go_at_call 54
               refine HC.out.mono ?_
               rintro e wc ⟨v, rfl, hown, hbc⟩
               obtain ⟨A1, c1, rfl, _, _, _⟩ := own_slice hown
               have Hown := Lib.hid (own_rebase (base' := X1 + 1) hown (by omega))
               have Hob := Lib.hid (own_base hown)
               have hoc := (hbc.block X1 (by omega)).trans Hoa.out
               have Hoc := Lib.hid hoc
               have z2 := cell_of_row _ _ 2 _ _ _ hoc
               have g2 := frozen_of_row _ _ 2 _ _ hoc
               have Hbc := Lib.hid hbc
               have hsc := hbc.size
               clear hown hbc hoc a0 a1 a2 r0 hqz)
            | fail)
          have Hg5 : Hid (wc.grownBy (wc.setCell ⟨X1, 2, none⟩ (.slice A1 Q.length c1)) (some X1)) := Lib.hid (only_setCell (g := X1) (World.grownBy.refl _ _) (.inl rfl) _)
          have Hr5 : Hid ((wc.setCell ⟨X1, 2, none⟩ (.slice A1 Q.length c1)).heap[X1]? = some (.cells #[.int .i64 y, .int .i64 c, .slice A1 Q.length c1] 172 (0, 0))) := Lib.hid (by
            have h := heap_setCell_same wc X1 2 _ _ (.slice A1 Q.length c1) Hoc.out
            simpa using h)
          generalize wc.setCell ⟨X1, 2, none⟩ (.slice A1 Q.length c1) = w5 at *
          go_roundw
          case rel =>
            refine ⟨i + 1, o, ⟨A1, c1⟩, Q, by omega, by go_num, Hmn.out.symm, Hr5.out, .inr ⟨ownsRow_only Hown.out Hg5.out (by omega), fun g hg e => ?_⟩, (Hrca.out.below Hbc.out).only Hg5.out (by omega), Hon.out.symm, (Hg5.out.block w.heap.size (by omega) (by intro e; injection e; omega)).trans ((Hbc.out.block w.heap.size (by omega)).trans Hr0a.out), below_only (Hbwa.out.trans (Hbc.out.mono (by omega))) Hg5.out (by omega) (by omega), Nat.lt_of_lt_of_le (show X1 < wc.heap.size by omega) Hg5.out.size⟩
            have h1 := own_ltY Hrc.out.o g hg
            have h2 := Hob.out g e
            omega
          case measure => simp [intOf]; omega
        · have hcd : (C == c) = false := by simp [hcr]
          have hci : decide (C = c) = false := decide_eq_false hcr
          have Hcr := Lib.hid hcr
          clear hcr
          have Hmn : Hid (((rcs l).take (i + 1)).foldl (mineK y c a) a = M) := Lib.hid (by
            rw [Hts.out, List.foldl_append, ← HM.out]
            exact if_neg (fun h => Hcr.out (by rw [← HCr.out]; exact h.2)))
          have HC := Lib.hid (choose_any x.2.a u.a x.1.rg.length x.2.c a.length u.c 112 #[] notB x.1.rg a wa HSa.out (HU.out.below Hbwa.out) (by omega) (by omega) HXi.out.pos Ha.out.ins.pos (enters_of Tryz.func112 (by kernel_rfl) rfl) (add2_fn wa))
          have Hon : Hid (((rcs l).take (i + 1)).flatMap (oneW y c a) = rcs o ++ [⟨Y, C, chooseP notB x.1.rg a⟩]) := Lib.hid (by
            rw [Hts.out, List.flatMap_append, ← Hro.out]
            have e : oneW y c a x.1 = [⟨x.1.yr, x.1.cr, chooseP notB x.1.rg a⟩] := by
              unfold oneW
              rw [if_neg (fun h => Hcr.out (by rw [← HCr.out]; exact h.2))]
              unfold oneQ
              rw [if_pos (by rw [HY.out]; exact Hyr.out)]
            rw [HY.out, HCr.out] at e
            simp only [List.flatMap_cons, List.flatMap_nil, e, List.append_nil])
          have hQl : (chooseP notB x.1.rg a).length ≤ 90 := by
            have h := HXq.out
            unfold oneQ at h
            rw [if_pos (by rw [HY.out]; exact Hyr.out)] at h
            rw [h]; exact hxl
          generalize chooseP notB x.1.rg a = Q at *
          go_upto_region 20 with (first
            | (go_at_call 54
               refine HC.out.mono ?_
               rintro e wc ⟨v, rfl, hown, hbc⟩
               obtain ⟨A1, c1, rfl, hS1⟩ := SlR.of_own hown
               have HQ := Lib.hid hS1
               have Hbc := Lib.hid hbc
               have hsc := hbc.size
               have Hrc5 := Lib.hid ((Hbc.out.block X hsa).trans Hra.out)
               have d0 := cell_of_row _ _ 0 _ _ _ Hrc5.out
               have d1 := cell_of_row _ _ 1 _ _ _ Hrc5.out
               have d2 := cell_of_row _ _ 2 _ _ _ Hrc5.out
               clear hown hbc hS1 a0 a1 a2 r0)
            | fail)
          have HCp := Lib.hid (copiedRc_any ⟨Y, C, x.1.rg⟩ x.2 A1 Q.length c1 Q wc HQ.out (by omega))
          go_wp2_with (first
            | (go_at_call 113
               refine HCp.out.mono ?_
               rintro e w6 ⟨t, rfl, hown6, hb6⟩
               have hsz6 : X < w6.heap.size := Nat.lt_of_lt_of_le (by omega) hb6.size
               have Hbb : Hid (Below wa.heap.size wa w6) := Lib.hid (Hbc.out.trans (hb6.mono Hbc.out.size))
               have Htb := Lib.hid (own_base hown6)
               have Hx6 : Hid (w6.ownsRow (X1 + 1) 68 4 (.slice t.a Q.length t.c) Q.length (rCells Q)) := Lib.hid (own_rebase hown6 (by omega))
               have Hrc6 := Lib.hid (Hrca.out.below Hbb.out)
               have Hza : Hid (∀ g, u12.ownBlock = some g → (Value.slice t.a Q.length t.c).ownBlock ≠ some g) := Lib.hid (fun g hg e => by have := own_ltY Hrc.out.o g hg; have := Htb.out g e; omega)
               clear hown6 hb6 d0 d1 d2)
            | (at_builtin
               go_loud (refine wpList_append_any _ rfl (.tmp 78) (.tmp 82) _ rfl (X1 + 1) 172 i0 _ 3 40 Tryz.underlying72 hi hz0 hz1 hz2 rfl (by omega) u12 o.length (rcCells o) rfl (ownsRow_below Hrc6.out.o gBel) _ _ 1 1 [.int .i64 Y, .int .i64 C, .slice t.a Q.length t.c] rfl ⟨rfl, fun _ => ⟨_, rfl, Nat.lt_succ_self _, fun j u hu => (by exact news_any _ _ _ j u hu)⟩⟩ (by simp [Value.oneCell']) (by simp only [maxLen]; omega) (by omega) (by simp; omega) ?_)
               intro v7 w7 hown7 hg7 hat7
               have Hn7 := Lib.hid hown7
               have Hg7 := Lib.hid hg7
               have Ht7 := Lib.hid hat7
               clear hown7 hg7 hat7)
            | fail)
          have hB7 : Below w6.heap.size w6 (w6.alloc (.cells #[.int .i64 Y, .int .i64 C, .slice t.a Q.length t.c] 172)) := (Below.refl _ _).alloc (Nat.le_refl _) _
          have Hown7 := Lib.hid (Hrc6.out.push (⟨Y, C, Q⟩, t) Hx6.out Hza.out hB7 Hg7.out Hn7.out Ht7.out)
          have hob : ∀ g, u12.ownBlock = some g → X1 + 1 ≤ g := own_base Hrc6.out.o
          have Hb7 : Hid (Below w.heap.size w w7) := Lib.hid (((Hbwa.out.trans (Hbb.out.mono (by omega))).alloc (by omega) (.cells #[.int .i64 Y, .int .i64 C, .slice t.a Q.length t.c] 172)).grown Hg7.out (by simp; omega) (fun g hg => by have := hob g hg; omega))
          have hk7 : ∀ b, b < w6.heap.size → b ≤ X1 → w7.heap[b]? = w6.heap[b]? := fun b hb hb2 => (Hg7.out.block b (by simp; omega) (fun e => by have := hob b e.symm; omega)).trans (hB7.block b hb)
          have Ho7 : Hid (w7.heap[X1]? = some (.cells #[.int .i64 y, .int .i64 c, .slice q.a M.length q.c] 172 (0, 0))) := Lib.hid ((hk7 X1 (by omega) (Nat.le_refl _)).trans ((Hbb.out.block X1 (by omega)).trans Hoa.out))
          have Hr7 : Hid (w7.heap[w.heap.size]? = some (.cells #[.slice u.a a.length u.c] 33 (0, 0))) := Lib.hid ((hk7 w.heap.size (by omega) (by omega)).trans ((Hbb.out.block w.heap.size (by omega)).trans Hr0a.out))
          have Hq7 : Hid ((M = a ∧ q = u) ∨ (w7.ownsRow (X1 + 1) 68 4 (.slice q.a M.length q.c) M.length (rCells M) ∧ ∀ g, v7.ownBlock = some g → (Value.slice q.a M.length q.c).ownBlock ≠ some g)) := Lib.hid (Hqa.out.imp id fun h => ⟨own_grownY (ownsRow_below (ownsRow_below h.1 Hbb.out) hB7) Hg7.out (fun g hg e => h.2 g e hg), fun g hg e => by
            rcases Ht7.out with h3 | h3
            · exact h.2 g (by rw [← h3]; exact hg) e
            · rw [h3] at hg; injection hg with hg; have := own_ltY (ownsRow_below h.1 Hbb.out) g e; simp at hg; omega⟩)
          have hX7 : X1 < w7.heap.size := Nat.lt_of_lt_of_le (by simp; omega) Hg7.out.size
          clear hB7 hob hk7
          go_roundw
          case rel =>
            exact ⟨i + 1, o ++ [(⟨Y, C, Q⟩, t)], q, M, by omega, by go_num, Hmn.out.symm, Ho7.out, Hq7.out, Hown7.out, by rw [Hon.out]; simp [rcs], Hr7.out, Hb7.out, hX7⟩
          case measure => simp [intOf]; omega
      · have hyd : (Y == y) = false := by simp [hyr]
        have hyi : decide (Y = y) = false := decide_eq_false hyr
        have Hyr := Lib.hid hyr
        clear hyr
        have Hmn : Hid (((rcs l).take (i + 1)).foldl (mineK y c a) a = M) := Lib.hid (by
          rw [Hts.out, List.foldl_append, ← HM.out]
          exact if_neg (fun h => Hyr.out (by rw [← HY.out]; exact h.1)))
        obtain ⟨Q, hQ⟩ : ∃ Q, Q = x.1.rg := ⟨_, rfl⟩
        have Hon : Hid (((rcs l).take (i + 1)).flatMap (oneW y c a) = rcs o ++ [⟨Y, C, Q⟩]) := Lib.hid (by
          rw [Hts.out, List.flatMap_append, ← Hro.out]
          have e : oneW y c a x.1 = [⟨x.1.yr, x.1.cr, Q⟩] := by
            unfold oneW
            rw [if_neg (fun h => Hyr.out (by rw [← HY.out]; exact h.1)), hQ]
            unfold oneQ
            rw [if_neg (fun h => Hyr.out (by rw [← HY.out]; exact h))]
          rw [HY.out, HCr.out] at e
          simp only [List.flatMap_cons, List.flatMap_nil, e, List.append_nil])
        have hQl : Q.length ≤ 90 := by rw [hQ]; exact hxl
        have HQ : Hid (SlR wa x.2.a Q.length x.2.c Q) := Lib.hid (by rw [hQ]; exact HSa.out)
        have hQn : x.1.rg.length = Q.length := by rw [hQ]
        rw [hQn] at a2
        clear hQ
        go_upto_region 20 with fail
        have HCp := Lib.hid (copiedRc_any ⟨Y, C, Q⟩ x.2 x.2.a Q.length x.2.c Q wa HQ.out (by omega))
        go_wp2_with (first
          | (go_at_call 113
             refine HCp.out.mono ?_
             rintro e w6 ⟨t, rfl, hown6, hb6⟩
             have hsz6 : X < w6.heap.size := Nat.lt_of_lt_of_le (by omega) hb6.size
             have Hbb : Hid (Below wa.heap.size wa w6) := Lib.hid (hb6)
             have Htb := Lib.hid (own_base hown6)
             have Hx6 : Hid (w6.ownsRow (X1 + 1) 68 4 (.slice t.a Q.length t.c) Q.length (rCells Q)) := Lib.hid (own_rebase hown6 (by omega))
             have Hrc6 := Lib.hid (Hrca.out.below Hbb.out)
             have Hza : Hid (∀ g, u12.ownBlock = some g → (Value.slice t.a Q.length t.c).ownBlock ≠ some g) := Lib.hid (fun g hg e => by have := own_ltY Hrc.out.o g hg; have := Htb.out g e; omega)
             clear hown6 hb6 a0 a1 a2 r0)
          | (at_builtin
             go_loud (refine wpList_append_any _ rfl (.tmp 78) (.tmp 82) _ rfl (X1 + 1) 172 i0 _ 3 40 Tryz.underlying72 hi hz0 hz1 hz2 rfl (by omega) u12 o.length (rcCells o) rfl (ownsRow_below Hrc6.out.o gBel) _ _ 1 1 [.int .i64 Y, .int .i64 C, .slice t.a Q.length t.c] rfl ⟨rfl, fun _ => ⟨_, rfl, Nat.lt_succ_self _, fun j u hu => (by exact news_any _ _ _ j u hu)⟩⟩ (by simp [Value.oneCell']) (by simp only [maxLen]; omega) (by omega) (by simp; omega) ?_)
             intro v7 w7 hown7 hg7 hat7
             have Hn7 := Lib.hid hown7
             have Hg7 := Lib.hid hg7
             have Ht7 := Lib.hid hat7
             clear hown7 hg7 hat7)
          | fail)
        have hB7 : Below w6.heap.size w6 (w6.alloc (.cells #[.int .i64 Y, .int .i64 C, .slice t.a Q.length t.c] 172)) := (Below.refl _ _).alloc (Nat.le_refl _) _
        have Hown7 := Lib.hid (Hrc6.out.push (⟨Y, C, Q⟩, t) Hx6.out Hza.out hB7 Hg7.out Hn7.out Ht7.out)
        have hob : ∀ g, u12.ownBlock = some g → X1 + 1 ≤ g := own_base Hrc6.out.o
        have Hb7 : Hid (Below w.heap.size w w7) := Lib.hid (((Hbwa.out.trans (Hbb.out.mono (by omega))).alloc (by omega) (.cells #[.int .i64 Y, .int .i64 C, .slice t.a Q.length t.c] 172)).grown Hg7.out (by simp; omega) (fun g hg => by have := hob g hg; omega))
        have hk7 : ∀ b, b < w6.heap.size → b ≤ X1 → w7.heap[b]? = w6.heap[b]? := fun b hb hb2 => (Hg7.out.block b (by simp; omega) (fun e => by have := hob b e.symm; omega)).trans (hB7.block b hb)
        have Ho7 : Hid (w7.heap[X1]? = some (.cells #[.int .i64 y, .int .i64 c, .slice q.a M.length q.c] 172 (0, 0))) := Lib.hid ((hk7 X1 (by omega) (Nat.le_refl _)).trans ((Hbb.out.block X1 (by omega)).trans Hoa.out))
        have Hr7 : Hid (w7.heap[w.heap.size]? = some (.cells #[.slice u.a a.length u.c] 33 (0, 0))) := Lib.hid ((hk7 w.heap.size (by omega) (by omega)).trans ((Hbb.out.block w.heap.size (by omega)).trans Hr0a.out))
        have Hq7 : Hid ((M = a ∧ q = u) ∨ (w7.ownsRow (X1 + 1) 68 4 (.slice q.a M.length q.c) M.length (rCells M) ∧ ∀ g, v7.ownBlock = some g → (Value.slice q.a M.length q.c).ownBlock ≠ some g)) := Lib.hid (Hqa.out.imp id fun h => ⟨own_grownY (ownsRow_below (ownsRow_below h.1 Hbb.out) hB7) Hg7.out (fun g hg e => h.2 g e hg), fun g hg e => by
          rcases Ht7.out with h3 | h3
          · exact h.2 g (by rw [← h3]; exact hg) e
          · rw [h3] at hg; injection hg with hg; have := own_ltY (ownsRow_below h.1 Hbb.out) g e; simp at hg; omega⟩)
        have hX7 : X1 < w7.heap.size := Nat.lt_of_lt_of_le (by simp; omega) Hg7.out.size
        clear hB7 hob hk7
        go_roundw
        case rel =>
          exact ⟨i + 1, o ++ [(⟨Y, C, Q⟩, t)], q, M, by omega, by go_num, Hmn.out.symm, Ho7.out, Hq7.out, Hown7.out, by rw [Hon.out]; simp [rcs], Hr7.out, Hb7.out, hX7⟩
        case measure => simp [intOf]; omega
    · have hin' : ¬ (i : Int) < (n : Int) := by omega
      have Hend : Hid ((rcs l).take i = rcs l) := Lib.hid (List.take_of_length_le (by rw [rcs_len, Hln.out]; omega))
      rw [Hend.out] at HM Hro
      have hMn : 0 < M.length := by rw [HM.out]; exact mineK_ne Ha.out.ins Hane.out (fun x hx => HL.out.ins x hx) Hane.out
      have b0 := cell_of_row _ _ 0 _ _ _ Ho1.out
      have b1 := cell_of_row _ _ 1 _ _ _ Ho1.out
      have b2 := cell_of_row _ _ 2 _ _ _ Ho1.out
      have HCp := Lib.hid (copiedRc_any ⟨y, c, M⟩ q q.a M.length q.c M wo HSq.out (by omega))
      go_upto_region 23 with (first
        | (go_at_call 113
           refine HCp.out.mono ?_
           rintro e w6 ⟨t, rfl, hown6, hb6⟩
           have hsz6 : wo.heap.size ≤ w6.heap.size := hb6.size
           have Hbb := Lib.hid hb6
           have Htb := Lib.hid (own_base hown6)
           have Hx6 : Hid (w6.ownsRow (X1 + 1) 68 4 (.slice t.a M.length t.c) M.length (rCells M)) := Lib.hid (own_rebase hown6 (by omega))
           have Hrc6 := Lib.hid (Hrc.out.below hb6)
           have Hza : Hid (∀ g, u12.ownBlock = some g → (Value.slice t.a M.length t.c).ownBlock ≠ some g) := Lib.hid (fun g hg e => by have := own_ltY Hrc.out.o g hg; have := Htb.out g e; omega)
           clear hown6 hb6 b0 b1 b2)
        | (at_builtin
           go_loud (refine wpList_append_any _ rfl (.tmp 85) (.tmp 91) _ rfl (X1 + 1) 172 i0 _ 3 40 Tryz.underlying72 hi hz0 hz1 hz2 rfl (by omega) u12 o.length (rcCells o) rfl (ownsRow_below Hrc6.out.o gBel) _ _ 1 1 [.int .i64 y, .int .i64 c, .slice t.a M.length t.c] rfl ⟨rfl, fun _ => ⟨_, rfl, Nat.lt_succ_self _, fun j u hu => (by exact news_any _ _ _ j u hu)⟩⟩ (by simp [Value.oneCell']) (by simp only [maxLen]; omega) (by omega) (by simp; omega) ?_)
           intro v7 w7 hown7 hg7 hat7
           have Hn7 := Lib.hid hown7
           have Hg7 := Lib.hid hg7
           have Ht7 := Lib.hid hat7
           clear hown7 hg7 hat7)
        | fail)
      have hB7 : Below w6.heap.size w6 (w6.alloc (.cells #[.int .i64 y, .int .i64 c, .slice t.a M.length t.c] 172)) := (Below.refl _ _).alloc (Nat.le_refl _) _
      have hown7 := Hrc6.out.push (⟨y, c, M⟩, t) Hx6.out Hza.out hB7 Hg7.out Hn7.out Ht7.out
      have hob : ∀ g, u12.ownBlock = some g → X1 + 1 ≤ g := own_base Hrc6.out.o
      have Hb7 : Hid (Below w.heap.size w w7) := Lib.hid (((Hbw.out.trans (Hbb.out.mono (by omega))).alloc (by omega) (.cells #[.int .i64 y, .int .i64 c, .slice t.a M.length t.c] 172)).grown Hg7.out (by simp; omega) (fun g hg => by have := hob g hg; omega))
      obtain ⟨K, hK⟩ : ∃ K : RcL, K = o ++ [(⟨y, c, M⟩, t)] := ⟨_, rfl⟩
      rw [← hK] at hown7
      have HKr : Hid (rcs K = (rcs l).flatMap (oneW y c a) ++ [⟨y, c, M⟩]) := Lib.hid (by rw [hK, ← Hro.out]; simp [rcs])
      have hKl : K.length = o.length + 1 := by rw [hK]; simp
      have hKb : ∀ z ∈ K, 0 < z.1.rg.length ∧ z.1.rg.length ≤ 90 := fun z hz => by
        have h1 : z.1 ∈ rcs K := List.mem_map_of_mem hz
        rw [HKr.out] at h1
        rcases List.mem_append.1 h1 with h2 | h2
        · obtain ⟨x, hx, hzx⟩ := List.mem_flatMap.1 h2
          have h3 := oneQ_eq HL.out Ha.out.ins Hda.out hx
          unfold oneW at hzx
          split at hzx
          · cases hzx
          · rw [List.mem_singleton] at hzx
            rw [hzx]
            dsimp only
            rw [h3]
            exact ⟨(HL.out.hy.ok x hx).ne, HL.out.len90 hx⟩
        · rw [List.mem_singleton] at h2
          rw [h2]
          exact ⟨hMn, hMl⟩
      obtain ⟨A7, c7, rfl, _, _, _⟩ := own_slice hown7.o
      have Hown7 := Lib.hid hown7
      have HKb := Lib.hid hKb
      clear hB7 hob hK hown7 hKb
      obtain ⟨k7, hk7⟩ : ∃ k7, K.length = k7 := ⟨_, rfl⟩
      have Hk7 := Lib.hid hk7
      rw [hk7] at Hown7 hKl ⊢
      clear hk7
      have hk7' : ¬ (200 : Int) < (k7 : Int) := by omega
      have hk8 : k7 ≤ 101 := by omega
      clear hKl
      have HSl := Lib.hid (show SlRc w7 A7 k7 c7 K from by have := Hown7.out; rw [← Hk7.out] at this ⊢; exact this.sl)
      have HD := Lib.hid (deleteRc_none A7 k7 c7 K w7 HSl.out (fun x hx => (HKb.out x hx).1))
      have HX := Lib.hid (fun W (h : Below w7.heap.size w7 W) => show Calls Tryz.prog 116 #[.slice A7 k7 c7, .func (.func 117) #[] #[]] W fun e w' => e = .returned (.bool false) ∧ Below W.heap.size W w' from by
        have h1 := containsRc_any 117 #[] (fun _ => false) A7 k7 c7 K W (HSl.out.below h) (enters_of Tryz.func117 (by kernel_rfl) rfl) (fun W2 hW2 x hx => by
          show Calls Tryz.prog 117 #[.agg #[.int .i64 x.1.yr, .int .i64 x.1.cr, .slice x.2.a x.1.rg.length x.2.c]] W2 _
          exact add4_any x.1 x.2 W2 (by have := (HKb.out x hx).2; omega))
        rw [show K.any (fun _ => false) = false from by simp] at h1
        exact h1)
      have HSo := Lib.hid (fun W (h : Below w7.heap.size w7 W) => sortRc_own (base := X1 + 1) (v := .slice A7 k7 c7) (l := K) W (by have := (Hown7.out.below h).o; rw [← Hk7.out] at this ⊢; exact this) (by have := Hk7.out; omega))
      go_upto_region 24 with (first
        | (go_at_call 114
           refine HD.out.mono ?_
           rintro e w8 ⟨rfl, hb8⟩
           have Hb8 := Lib.hid hb8
           clear hb8)
        | fail)
      go_upto_region 26 with (first
        | (go_at_call 116
           refine (HX.out _ Hb8.out).mono ?_
           rintro e w9 ⟨rfl, hb9⟩
           have Hb9 := Lib.hid (Hb8.out.trans (hb9.mono Hb8.out.size))
           clear hb9)
        | fail)
      go_upto_region 27 with (first
        | (go_at_call 118
           refine (HSo.out _ Hb9.out).mono ?_
           rintro e w10 ⟨rfl, ss, hperm, hsort, hown10, hg10⟩
           have Hpm := Lib.hid hperm
           have Hst := Lib.hid hsort
           have Ho10 := Lib.hid hown10
           have Hg10 := Lib.hid hg10
           clear hperm hsort hown10 hg10)
        | fail)
      go_wp2
      go_ret2
      have hr9 := Hown7.out.below Hb9.out
      have hpm := Hpm.out
      have hp1 : (rcs ss).Perm ((rcs l).flatMap (oneW y c a) ++ [⟨y, c, M⟩]) := by rw [← HKr.out]; exact hpm.map _
      have hs1 : (rcs ss).Pairwise fun p q => ¬ rcLt q p := by
        unfold rcs
        rw [List.pairwise_map]
        exact Hst.out
      have hs2 := rising hp1 (keys_apart HL.out.hy.up y c a M) hs1
      have hp2 : (rcs ss).Perm ((rcs l).flatMap (oneA y c a) ++ if ((rcs l).foldl (mineK y c a) a).length = 0 then [] else [⟨y, c, (rcs l).foldl (mineK y c a) a⟩]) := by
        rw [← HM.out, if_neg (by omega), ← oneW_eq HL.out Ha.out.ins Hda.out]
        exact hp1
      obtain ⟨k1, k2, k3, k4, k5⟩ := addW_ok HL.out (by rw [rcs_len, Hln.out]; omega) hy hc (by omega) HB.out Ha.out Hya.out hp2 hs2
      refine ⟨ss, _, rfl, RcOwn.rebase (base := X1 + 1) ⟨Ho10.out, fun x hx => ?_, fun x hx => hr9.ap x (hpm.mem_iff.1 hx)⟩ (by omega), k1, by rw [rcs_len, rcs_len] at k2; exact k2, k3, k4, k5, ?_⟩
      · have hxK := hpm.mem_iff.1 hx
        exact own_grownY (hr9.fs x hxK) Hg10.out (fun g hg e => hr9.ap x hxK g e hg)
      · exact (Hb7.out.trans (Hb9.out.mono Hb7.out.size)).grown Hg10.out (Nat.le_trans Hb7.out.size Hb9.out.size) (fun g hg => by have := own_base hr9.o g hg; omega)
end Go.Proofs.YtfmkmhhghmdakaaGreatDoor
