/- Contract: Add of ref15, at a history that is right: the walk. (Printed by genJk.py.) -/
import Derived.Maps.RangeWalk
import Derived.Test.YtfmkmhhghmdakaaGreatDoorQA
import Derived.Test.YtfmkmhhghmdakaaGreatDoorQB
import Derived.Test.YtfmkmhhghmdakaaGreatDoorQC
import Derived.Test.YtfmkmhhghmdakaaGreatDoorQD
import Derived.Test.YtfmkmhhghmdakaaGreatDoorQH
import Derived.Test.YtfmkmhhghmdakaaGreatDoorQI
import Derived.Test.YtfmkmhhghmdakaaGreatDoorQJ
import Derived.Test.YtfmkmhhghmdakaaGreatDoorQK
namespace Go.Proofs.YtfmkmhhghmdakaaGreatDoor
open Go.RowKit Go.Shelf
set_option linter.unusedVariables false
set_option linter.unusedSimpArgs false

/-- How records stand: by year, then by crop. -/
def rcCmp (x y : Rc) : Int := orI (cI x.yr y.yr) (cI x.cr y.cr)
theorem rcCmp_lt {x y : Rc} : rcCmp x y = -1 ↔ rcLt x y := by
  unfold rcCmp orI rcLt
  rcases cI_cases x.yr y.yr with ⟨h, h'⟩ | ⟨h, h'⟩ | ⟨h, h'⟩ <;> rcases cI_cases x.cr y.cr with ⟨k, k'⟩ | ⟨k, k'⟩ | ⟨k, k'⟩ <;> rw [h, k] <;> simp <;> omega
set_option maxHeartbeats 4000000 in
set_option maxRecDepth 100000 in
theorem compareRc_any (x y : Rc) (v u : LV) (w : World) : Calls Tryz.prog 119 #[.agg #[.int .i64 x.yr, .int .i64 x.cr, .slice v.a x.rg.length v.c], .agg #[.int .i64 y.yr, .int .i64 y.cr, .slice u.a y.rg.length u.c]] w fun e w' => e = .returned (.int .i64 (rcCmp x y)) ∧ Below w.heap.size w w' := by
  obtain ⟨a, b, ra⟩ := x
  obtain ⟨c, d, rc⟩ := y
  have Hc1 := Lib.hid (fun W => cmpI_any a c W)
  have Hc2 := Lib.hid (fun W => cmpI_any b d W)
  have Hr : Hid (rcCmp ⟨a, b, ra⟩ ⟨c, d, rc⟩ = orI (cI a c) (cI b d)) := Lib.hid rfl
  generalize rcCmp ⟨a, b, ra⟩ ⟨c, d, rc⟩ = res at *
  generalize cI a c = c1 at *
  generalize cI b d = c2 at *
  dsimp only at *
  generalize ra.length = na at *
  generalize rc.length = nc at *
  go_enter Tryz.func119, Tryz.ntmps119
  go_upto_region 1 with fail
  obtain ⟨wa, hwa⟩ : ∃ wa : World, wa = (w.alloc (.cells #[.int .i64 a, .int .i64 b, .slice v.a na v.c] 172)).alloc (.cells #[.int .i64 c, .int .i64 d, .slice u.a nc u.c] 172) := ⟨_, rfl⟩
  rw [← hwa]
  have HG : Hid (wa.heap[w.heap.size]? = some (.cells #[.int .i64 a, .int .i64 b, .slice v.a na v.c] 172 (0, 0))) := Lib.hid (by rw [hwa]; exact (Below.heap_alloc _ _ _ (by simp)).trans (heap_alloc_new w _))
  have HE : Hid (wa.heap[w.heap.size + 1]? = some (.cells #[.int .i64 c, .int .i64 d, .slice u.a nc u.c] 172 (0, 0))) := Lib.hid (by rw [hwa]; exact heap_alloc2_new w _ _)
  have Hba : Hid (Below w.heap.size w wa) := Lib.hid (by rw [hwa]; exact (by repeat' (first | with_reducible exact Below.refl _ _ | with_reducible refine below_drewN ?_ _ | with_reducible refine Below.drew ?_ | with_reducible refine Below.alloc ?_ ?_ _ | with_reducible refine Below.setCell ?_ ?_ _ | with_reducible refine Below.trans ?_ (Below.mono (by with_reducible assumption) ?_) | (simp; done) | (simp; omega) | omega)))
  have hlE : w.heap.size + 1 < wa.heap.size := by rw [hwa]; simp
  clear hwa
  have hlG : w.heap.size < wa.heap.size := by omega
  have a0 := cell_of_row wa w.heap.size 0 _ _ _ HG.out
  have a1 := cell_of_row wa w.heap.size 1 _ _ _ HG.out
  have b0 := cell_of_row wa (w.heap.size + 1) 0 _ _ _ HE.out
  have b1 := cell_of_row wa (w.heap.size + 1) 1 _ _ _ HE.out
  have Hor := Lib.hid (orI_any wa.heap.size c1 c2 (wa.alloc (.cells #[.int .i64 c1, .int .i64 c2] 3)).drew (cell_of_row _ _ 0 _ _ _ (heap_alloc_new wa _)) (cell_of_row _ _ 1 _ _ _ (heap_alloc_new wa _)))
  have Hb2 : Hid (Below w.heap.size w (wa.alloc (.cells #[.int .i64 c1, .int .i64 c2] 3)).drew) := Lib.hid ((Hba.out.alloc (by omega) _).drew)
  rw [← Hr.out] at Hor
  go_region_held3 (fun w' => w'.cell? ⟨w.heap.size, 0, none⟩ = some (.int .i64 a) ∧ w'.cell? ⟨w.heap.size, 1, none⟩ = some (.int .i64 b) ∧ w'.cell? ⟨w.heap.size + 1, 0, none⟩ = some (.int .i64 c) ∧ w'.cell? ⟨w.heap.size + 1, 1, none⟩ = some (.int .i64 d))
    (first | exact ⟨a0, a1, b0, b1⟩ | exact ⟨(World.cell?_alloc_lt wa _ ⟨w.heap.size, 0, none⟩ hlG).trans a0, (World.cell?_alloc_lt wa _ ⟨w.heap.size, 1, none⟩ hlG).trans a1, (World.cell?_alloc_lt wa _ ⟨w.heap.size + 1, 0, none⟩ hlE).trans b0, (World.cell?_alloc_lt wa _ ⟨w.heap.size + 1, 1, none⟩ hlE).trans b1⟩ | go_keep)
    (first
      | (go_at_call_of 171 (Value.int IntKind.i64 c); refine (Hc1.out _).mono ?_; rintro e w1 ⟨rfl, rfl⟩)
      | (go_at_call_of 171 (Value.int IntKind.i64 d); refine (Hc2.out _).mono ?_; rintro e w1 ⟨rfl, rfl⟩)
      | (go_at_call 170; refine Hor.out.mono ?_; rintro e w1 ⟨rfl, rfl⟩)
      | fail)
  all_goals go_wp2
  all_goals go_ret
  all_goals exact ⟨rfl, Hb2.out⟩
set_option maxHeartbeats 2000000 in
theorem singleRc_any (x : Rc) (v : LV) (w : World) (h : RcOk x) (hx : SlR w v.a x.rg.length v.c x.rg) :
    Calls Tryz.prog 198 #[.agg #[.int .i64 x.yr, .int .i64 x.cr, .slice v.a x.rg.length v.c]] w fun e w' => e = .returned (.int .i64 0) ∧ Below w.heap.size w w' := by
  obtain ⟨⟨a1, a2⟩, ⟨b1, b2⟩, hv, hn⟩ := h
  have HV := Lib.hid (fun W (h : SlR W v.a x.rg.length v.c x.rg) => valid_any v.a x.rg.length v.c x.rg W h)
  rw [hv] at HV
  have n1 : ¬ x.yr < 0 := by omega
  have n2 : ¬ (100 : Int) < x.yr := by omega
  have n3 : ¬ x.cr < 0 := by omega
  have n4 : ¬ (40 : Int) ≤ x.cr := by omega
  have n8 : ¬ (x.rg.length = 0) := by omega
  have n9 : ¬ ((x.rg.length : Int) = 0) := by omega
  have Hx := Lib.hid hx
  clear hx hv
  obtain ⟨n, hne⟩ : ∃ n, x.rg.length = n := ⟨_, rfl⟩
  rw [hne] at HV Hx n8 n9 ⊢
  clear hne hn
  go_enter Tryz.func198, Tryz.ntmps198
  go_upto_region 1 with fail
  obtain ⟨w1, hw1⟩ : ∃ w1 : World, w1 = w.alloc (.cells #[.int .i64 x.yr, .int .i64 x.cr, .slice v.a n v.c] 172) := ⟨_, rfl⟩
  rw [← hw1]
  have hr1 : w1.heap[w.heap.size]? = some (.cells #[.int .i64 x.yr, .int .i64 x.cr, .slice v.a n v.c] 172 (0, 0)) := by rw [hw1]; exact heap_alloc_new w _
  have Hb1 : Hid (Below w.heap.size w w1) := Lib.hid (by rw [hw1]; exact (by repeat' (first | with_reducible exact Below.refl _ _ | with_reducible refine below_drewN ?_ _ | with_reducible refine Below.drew ?_ | with_reducible refine Below.alloc ?_ ?_ _ | with_reducible refine Below.setCell ?_ ?_ _ | with_reducible refine Below.trans ?_ (Below.mono (by with_reducible assumption) ?_) | (simp; done) | (simp; omega) | omega)))
  have hs1 : w.heap.size < w1.heap.size := by rw [hw1]; simp
  have Hx1 := Lib.hid (Hx.out.below Hb1.out)
  have c0 := cell_of_row _ _ 0 _ _ _ hr1
  have c1 := cell_of_row _ _ 1 _ _ _ hr1
  have c2 := cell_of_row _ _ 2 _ _ _ hr1
  clear hw1 hr1
  go_wp2_with (first
    | (go_at_call 48; refine (HV.out _ Hx1.out).mono ?_; rintro e w2 ⟨rfl, hb2⟩; have Hb2 := Lib.hid hb2; clear hb2)
    | fail)
  go_ret
  exact ⟨rfl, Hb1.out.trans (Hb2.out.mono (by omega))⟩
end Go.Proofs.YtfmkmhhghmdakaaGreatDoor
namespace Go.Proofs.YtfmkmhhghmdakaaGreatDoor
open Go.RowKit Go.Shelf Go.Maps
set_option linter.unusedVariables false
set_option linter.unusedSimpArgs false

/-- The records of a year. -/
def ofY (m : RcL) (y : Int) : RcL := m.filter fun x => decide (x.1.yr = y)
theorem ofY_snoc (m : RcL) (x : Rc × LV) (y : Int) : ofY (m ++ [x]) y = if x.1.yr = y then ofY m y ++ [x] else ofY m y := by
  unfold ofY
  rw [List.filter_append]
  by_cases h : x.1.yr = y <;> simp [h]
theorem ofY_len (m : RcL) (y : Int) : (ofY m y).length ≤ m.length := List.length_filter_le _ _
/-- Each year's records lie in a row of their own. -/
structure GrpR (W : World) (B : Nat) (pre : RcL) (D : DataW Value) (f : Int → Value) : Prop where
  map : IsMap D
  at' : ∀ y : Int, D.atKey (.int .i64 y) (.held (.slice none 0 0)) = .held (f y)
  own : ∀ y, W.ownsRow B 172 3 (f y) (ofY pre y).length (rcCells (ofY pre y))
  ap : ∀ y z, y ≠ z → ∀ g, (f y).ownBlock = some g → (f z).ownBlock ≠ some g
theorem GrpR.empty (W : World) (B : Nat) : GrpR W B [] (.map []) (fun _ => .slice none 0 0) :=
  ⟨isMap_empty, fun _ => rfl, fun _ => World.ownsRow_nil _ _ _ _, fun _ _ _ g h => (by simp [Value.ownBlock] at h)⟩
theorem GrpR.kept {W W' : World} {B : Nat} {pre : RcL} {D : DataW Value} {f : Int → Value} (h : GrpR W B pre D f) {row : Option Nat} (hg : W.grownBy W' row) (hr : ∀ y g, (f y).ownBlock = some g → row ≠ some g) : GrpR W' B pre D f :=
  ⟨h.map, h.at', fun y => own_grown (h.own y) hg (fun g hgs e => hr y g hgs e), h.ap⟩
theorem GrpR.below {W W' : World} {B : Nat} {pre : RcL} {D : DataW Value} {f : Int → Value} (h : GrpR W B pre D f) (hb : Below W.heap.size W W') : GrpR W' B pre D f := h.kept (Go.Proofs.YtfmkmhhghmdakaaGreatDoor.Below.grown_none hb) (fun y g hg e => by cases e)
/-- Behind 'out[y] = append(out[y], r)'. -/
theorem GrpR.step {W W' : World} {B : Nat} {pre : RcL} {D : DataW Value} {f : Int → Value} (h : GrpR W B pre D f) (x : Rc × LV) {v' : Value}
    (hown : W'.ownsRow B 172 3 v' ((ofY pre x.1.yr).length + 1) (rcCells (ofY pre x.1.yr) ++ [.int .i64 x.1.yr, .int .i64 x.1.cr, .slice x.2.a x.1.rg.length x.2.c])) (hoth : ∀ y, y ≠ x.1.yr → W'.ownsRow B 172 3 (f y) (ofY pre y).length (rcCells (ofY pre y)))
    (hat : v'.ownBlock = (f x.1.yr).ownBlock ∨ ∃ g, v'.ownBlock = some g ∧ ∀ y, (f y).ownBlock ≠ some g) : GrpR W' B (pre ++ [x]) (D.put (.int .i64 x.1.yr) (.held v')) (fun y => if y = x.1.yr then v' else f y) := by
  have hk : WideAt.IsKeyLit (.int .i64 x.1.yr) := trivial
  have hal : ∀ y, y ≠ x.1.yr → ∀ g, v'.ownBlock = some g → (f y).ownBlock ≠ some g := by
    intro t ht g hg
    rcases hat with e | ⟨g', e, hno⟩
    · rw [e] at hg
      exact h.ap x.1.yr t (fun e => ht e.symm) g hg
    · rw [e] at hg
      injection hg with hg
      subst hg
      exact hno t
  refine ⟨h.map.put _ _, fun y => ?_, fun y => ?_, fun y z hst g hs => ?_⟩
  · by_cases hs : y = x.1.yr
    · subst hs
      rw [if_pos rfl]
      exact atKey_put_same h.map hk _ _
    · rw [if_neg hs, atKey_put_other (lit_ne hs)]
      exact h.at' y
  · rw [ofY_snoc]
    by_cases hs : y = x.1.yr
    · subst hs
      rw [if_pos rfl, if_pos rfl, List.length_append, rcCells_snoc]
      exact hown
    · rw [if_neg hs, if_neg (fun e => hs e.symm)]
      exact hoth y hs
  · by_cases h1 : y = x.1.yr
    · rw [if_pos h1] at hs
      rw [if_neg (fun e => hst (h1.trans e.symm))]
      exact hal z (fun e => hst (h1.trans e.symm)) g hs
    · rw [if_neg h1] at hs
      by_cases h2 : z = x.1.yr
      · rw [if_pos h2]
        exact fun e => hal y h1 g e hs
      · rw [if_neg h2]
        exact h.ap y z hst g hs
theorem zeroRcs (w : World) : (zeroValue 72).run Tryz.prog w = .ok (.slice none 0 0) w := by kernel_rfl
/-- What years leaves. -/
def YrPost (w : World) (l : RcL) (e : Ending) (w' : World) : Prop :=
  ∃ (b N : Nat) (D : DataW Value) (f : Int → Value), e = .returned (.map (some b)) ∧ w.heap.size ≤ b ∧ N ≤ 200 ∧ w'.ownsMap Tryz.prog 3 VR b N D ∧ GrpR w' (b + 1) l D f ∧ Below w.heap.size w w'

set_option maxHeartbeats 8000000 in
set_option maxRecDepth 100000 in
theorem years_any (A : Option Addr) (n c : Nat) (l : RcL) (w : World) (hA : SlRc w A n c l) (hn : n ≤ 200) (hy : ∀ x ∈ l, 0 ≤ x.1.yr ∧ x.1.yr ≤ 100) :
    Calls Tryz.prog 199 #[.slice A n c] w (YrPost w l) := by
  obtain ⟨i0, hi, hz0, hz1, hz2⟩ := info_parts Tryz.infoRc
  have HA := Lib.hid hA
  have Hln := Lib.hid hA.len
  have Hy := Lib.hid hy
  clear hA hy
  have hmm := @run_makeMap Tryz.prog
  go_enter Tryz.func199, Tryz.ntmps199
  go_upto_region 3 with fail
  clear hmm
  obtain ⟨b, hb⟩ : ∃ b, b = w.heap.size := ⟨_, rfl⟩
  have Hb := Lib.hid hb
  go_loopw [5, 9] (fun _ iv wr => ∃ (k N : Nat) (D : DataW Value) (f : Int → Value), k ≤ n ∧ iv = .int .i64 (k : Int) ∧ N ≤ k ∧ wr.ownsMap Tryz.prog 3 VR w.heap.size N D ∧ GrpR wr (w.heap.size + 1) (l.take k) D f ∧ Below w.heap.size w wr ∧ w.heap.size < wr.heap.size) (fun _ iv _ => n - (intOf iv).toNat)
  case atStart => exact ⟨0, 0, _, _, Nat.zero_le _, rfl, Nat.le_refl _, World.ownsMap_made w _ _ _, GrpR.empty _ _, (by repeat' (first | with_reducible exact Below.refl _ _ | with_reducible refine below_drewN ?_ _ | with_reducible refine Below.drew ?_ | with_reducible refine Below.alloc ?_ ?_ _ | with_reducible refine Below.setCell ?_ ?_ _ | with_reducible refine Below.trans ?_ (Below.mono (by with_reducible assumption) ?_) | (simp; done) | (simp; omega) | omega)), by simp⟩
  case round =>
    obtain ⟨k, N, D, f, hk, rfl, hN, hmap, hgrp, hbw, hsz⟩ := hrel
    obtain ⟨wo, rfl⟩ : ∃ wo : World, wo = wr := ⟨_, rfl⟩
    have Hmap := Lib.hid hmap
    have Hgrp := Lib.hid hgrp
    have Hbw := Lib.hid hbw
    clear hmap hgrp hbw
    by_cases hkn : k < n
    · have hkn' : (k : Int) < (n : Int) := by omega
      have hkl : k < l.length := by rw [Hln.out]; exact hkn
      obtain ⟨bA, off, rfl, hbl, c0, c1, c2, hS⟩ := (HA.out.below Hbw.out).at k hkl
      have hyk := Hy.out l[k] (List.getElem_mem hkl)
      have Hts := Lib.hid (List.take_succ_eq_append_getElem hkl)
      obtain ⟨x, hx⟩ : ∃ x, x = l[k] := ⟨_, rfl⟩
      rw [← hx] at c0 c1 c2 hyk Hts
      have hPl : (ofY (l.take k) x.1.yr).length ≤ 200 := by
        have h1 := ofY_len (l.take k) x.1.yr
        rw [List.length_take] at h1
        omega
      clear hx hS
      obtain ⟨Y, hY⟩ : ∃ Y, Y = x.1.yr := ⟨_, rfl⟩
      go_upto_region 5 with fail
      obtain ⟨wa, hwa⟩ : ∃ wa : World, wa = wo.alloc (.cells #[.int .i64 x.1.yr, .int .i64 x.1.cr, .slice x.2.a x.1.rg.length x.2.c] 172) := ⟨_, rfl⟩
      rw [← hwa]
      obtain ⟨X, hX⟩ : ∃ X, X = wo.heap.size := ⟨_, rfl⟩
      have Hra : Hid (wa.heap[X]? = some (.cells #[.int .i64 x.1.yr, .int .i64 x.1.cr, .slice x.2.a x.1.rg.length x.2.c] 172 (0, 0))) := Lib.hid (by rw [hwa, hX]; exact heap_alloc_new wo _)
      have Hba : Hid (Below wo.heap.size wo wa) := Lib.hid (by rw [hwa]; exact (by repeat' (first | with_reducible exact Below.refl _ _ | with_reducible refine below_drewN ?_ _ | with_reducible refine Below.drew ?_ | with_reducible refine Below.alloc ?_ ?_ _ | with_reducible refine Below.setCell ?_ ?_ _ | with_reducible refine Below.trans ?_ (Below.mono (by with_reducible assumption) ?_) | (simp; done) | (simp; omega) | omega)))
      have hsa : X < wa.heap.size := by rw [hwa, hX]; simp
      have hXw : w.heap.size < X := by omega
      have hXo : wo.heap.size ≤ X := by omega
      rw [← hX]
      have hmapa : Hid (wa.ownsMap Tryz.prog 3 VR w.heap.size N D) := Lib.hid (Hmap.out.kept (Go.Proofs.YtfmkmhhghmdakaaGreatDoor.Below.grown_none Hba.out) (by simp))
      have hgrpa := Lib.hid (Hgrp.out.below Hba.out)
      clear hwa hX c0 c1 c2
      have Hlook : Hid (∀ W : World, W.ownsMap Tryz.prog 3 VR w.heap.size N D → (Instr.lookup 245 (.map (some w.heap.size)) (.int .i64 x.1.yr) false).run Tryz.prog W = .ok (f x.1.yr) W) := Lib.hid (fun W h => held_look h lawIntO Tryz.underlying245 (zeroRcs W) (keyOf_int_mk Tryz.underlying3 (WalkArith.wf_i64 (by omega))) (Hgrp.out.at' x.1.yr))
      have Hown := Lib.hid (hgrpa.out.own x.1.yr)
      have Hbf := Lib.hid (fun y g (hg : (f y).ownBlock = some g) => own_base (hgrpa.out.own y) g hg)
      have Hlf := Lib.hid (fun y g (hg : (f y).ownBlock = some g) => own_lt (hgrpa.out.own y) g hg)
      generalize hV : f x.1.yr = V at Hlook Hown
      have HV := Lib.hid hV
      clear hV
      have l0 := Hlook.out wa.drew hmapa.out
      have a0 : wa.drew.cell? ⟨X, 0, none⟩ = some (.int .i64 x.1.yr) := cell_of_row _ _ 0 _ _ _ Hra.out
      have a1 : wa.drew.cell? ⟨X, 1, none⟩ = some (.int .i64 x.1.cr) := cell_of_row _ _ 1 _ _ _ Hra.out
      have a2 : wa.drew.cell? ⟨X, 2, none⟩ = some (.slice x.2.a x.1.rg.length x.2.c) := cell_of_row _ _ 2 _ _ _ Hra.out
      refine wp_region_held_tail (S := fun w' => (Instr.lookup 245 (.map (some w.heap.size)) (.int .i64 x.1.yr) false).run Tryz.prog w' = .ok V w' ∧ w'.cell? ⟨X, 0, none⟩ = some (.int .i64 x.1.yr) ∧ w'.cell? ⟨X, 1, none⟩ = some (.int .i64 x.1.cr) ∧ w'.cell? ⟨X, 2, none⟩ = some (.slice x.2.a x.1.rg.length x.2.c)) 10 (by kernel_rfl) (by kernel_rfl) (by kernel_rfl) ?_
      have hHeld : (fun w' : World => (Instr.lookup 245 (.map (some w.heap.size)) (.int .i64 x.1.yr) false).run Tryz.prog w' = .ok V w' ∧ w'.cell? ⟨X, 0, none⟩ = some (.int .i64 x.1.yr) ∧ w'.cell? ⟨X, 1, none⟩ = some (.int .i64 x.1.cr) ∧ w'.cell? ⟨X, 2, none⟩ = some (.slice x.2.a x.1.rg.length x.2.c)) wa.drew := ⟨l0, a0, a1, a2⟩
      clear l0 a0 a1 a2
      simp only [List.take_succ_cons, List.take_zero, List.replicate]
      refine wpAnyH_take (i := 0) (v := ?vva0) rfl (by kernel_rfl) (by kernel_rfl) (by kernel_rfl) (fun _ _ _ h => h) (Or.inl ⟨by rfl, ?hya0⟩) hHeld ?resta0; (case hya0 => (intro w hSw; (try dsimp only at hSw); go_simp; all_goals (with_reducible rfl))); simp only [Act.put, List.getElem_toArray, List.getElem_cons_zero, List.getElem_cons_succ, List.setIfInBounds_toArray, List.set_cons_zero, List.set_cons_succ]
      refine wpAnyH_take (i := 1) (v := ?vva1) rfl (by kernel_rfl) (by kernel_rfl) (by kernel_rfl) (fun _ _ _ h => h) (Or.inl ⟨by rfl, ?hya1⟩) hHeld ?resta1; (case hya1 => (intro w hSw; (try dsimp only at hSw); go_simp; all_goals (with_reducible rfl))); simp only [Act.put, List.getElem_toArray, List.getElem_cons_zero, List.getElem_cons_succ, List.setIfInBounds_toArray, List.set_cons_zero, List.set_cons_succ]
      refine wpAnyH_take (i := 2) (v := ?vva2) rfl (by kernel_rfl) (by kernel_rfl) (by kernel_rfl) (fun _ _ _ h => h) (Or.inl ⟨by rfl, ?hya2⟩) hHeld ?resta2; (case hya2 => (intro w hSw; (try dsimp only at hSw); go_simp; all_goals (with_reducible rfl))); simp only [Act.put, List.getElem_toArray, List.getElem_cons_zero, List.getElem_cons_succ, List.setIfInBounds_toArray, List.set_cons_zero, List.set_cons_succ]
      refine wpAnyH_take (i := 3) (v := ?vva3) rfl (by kernel_rfl) (by kernel_rfl) (by kernel_rfl) (fun _ _ _ h => h) (Or.inl ⟨by rfl, ?hya3⟩) hHeld ?resta3; (case hya3 => (intro w hSw; (try dsimp only at hSw); go_simp; all_goals (with_reducible rfl))); simp only [Act.put, List.getElem_toArray, List.getElem_cons_zero, List.getElem_cons_succ, List.setIfInBounds_toArray, List.set_cons_zero, List.set_cons_succ]
      refine wpAnyH_take (i := 4) (v := ?vva4) rfl (by kernel_rfl) (by kernel_rfl) (by kernel_rfl) (fun _ _ _ h => h) (Or.inl ⟨by rfl, ?hya4⟩) hHeld ?resta4; (case hya4 => (intro w hSw; (try dsimp only at hSw); go_simp; all_goals (with_reducible rfl))); simp only [Act.put, List.getElem_toArray, List.getElem_cons_zero, List.getElem_cons_succ, List.setIfInBounds_toArray, List.set_cons_zero, List.set_cons_succ]
      refine wpAnyH_take (i := 5) (v := ?vva5) rfl (by kernel_rfl) (by kernel_rfl) (by kernel_rfl) (fun _ _ _ h => h) (Or.inl ⟨by rfl, ?hya5⟩) hHeld ?resta5; (case hya5 => (intro w hSw; (try dsimp only at hSw); go_simp; all_goals (with_reducible rfl))); simp only [Act.put, List.getElem_toArray, List.getElem_cons_zero, List.getElem_cons_succ, List.setIfInBounds_toArray, List.set_cons_zero, List.set_cons_succ]
      refine wpAnyH_take (i := 6) (v := ?vva6) rfl (by kernel_rfl) (by kernel_rfl) (by kernel_rfl) (fun _ _ _ h => h) (Or.inl ⟨by rfl, ?hya6⟩) hHeld ?resta6; (case hya6 => (intro w hSw; (try dsimp only at hSw); go_simp; all_goals (with_reducible rfl))); simp only [Act.put, List.getElem_toArray, List.getElem_cons_zero, List.getElem_cons_succ, List.setIfInBounds_toArray, List.set_cons_zero, List.set_cons_succ]
      refine wpAnyH_take (i := 7) (v := ?vva7) rfl (by kernel_rfl) (by kernel_rfl) (by kernel_rfl) (fun _ _ _ h => h) (Or.inl ⟨by rfl, ?hya7⟩) hHeld ?resta7; (case hya7 => (intro w hSw; (try dsimp only at hSw); go_simp; all_goals (with_reducible rfl))); simp only [Act.put, List.getElem_toArray, List.getElem_cons_zero, List.getElem_cons_succ, List.setIfInBounds_toArray, List.set_cons_zero, List.set_cons_succ]
      refine wpAnyH_ready (rs := [8]) (by kernel_rfl) (by simp) ?_; refine AllReadyH.cons rfl (fun K hK => ?_) AllReadyH.nil
      go_simp
      have Hb9 : Hid (Below wa.heap.size wa (wa.drew.alloc (.cells #[.int .i64 x.1.yr, .int .i64 x.1.cr, .slice x.2.a x.1.rg.length x.2.c] 172))) := Lib.hid (by exact (by repeat' (first | with_reducible exact Below.refl _ _ | with_reducible assumption | with_reducible refine below_drewN ?_ _ | with_reducible refine Below.drew ?_ | with_reducible refine Below.alloc ?_ ?_ _ | with_reducible refine Below.setCell ?_ ?_ _ | with_reducible refine Below.trans ?_ (Below.mono (by with_reducible assumption) ?_) | with_reducible refine below_only ?_ (by with_reducible assumption) ?_ ?_ | (simp; done) | (simp; omega) | omega)))
      have hr9 := (Hb9.out.block X hsa).trans Hra.out
      refine hK.out _ _ ⟨Hlook.out _ (hmapa.out.kept (Go.Proofs.YtfmkmhhghmdakaaGreatDoor.Below.grown_none Hb9.out) (by simp)), cell_of_row _ _ 0 _ _ _ hr9, cell_of_row _ _ 1 _ _ _ hr9, cell_of_row _ _ 2 _ _ _ hr9⟩ (fun hHeld => ?_)
      clear hK K
      (try simp only [Act.put, List.getElem_toArray, List.getElem_cons_zero, List.getElem_cons_succ, List.setIfInBounds_toArray, List.set_cons_zero, List.set_cons_succ])
      refine wpAnyH_ready (rs := [9]) (by kernel_rfl) (by simp) ?_; refine AllReadyH.cons rfl (fun K hK => ?_) AllReadyH.nil
      refine step_append_any _ rfl (.tmp 19) (.tmp 21) 72 rfl (w.heap.size + 1) 172 i0 (.agg #[.int .i64 0, .int .i64 0, .slice none 0 0]) 3 40 Tryz.underlying72 hi hz0 hz1 hz2 rfl (by omega) V (ofY (l.take k) x.1.yr).length (rcCells (ofY (l.take k) x.1.yr)) rfl (ownsRow_below Hown.out Hb9.out) _ _ 1 1 [.int .i64 x.1.yr, .int .i64 x.1.cr, .slice x.2.a x.1.rg.length x.2.c] rfl ⟨rfl, fun _ => ⟨_, rfl, Nat.lt_succ_self _, fun j u hu => (by exact news_any _ _ _ j u hu)⟩⟩ (by simp [Value.oneCell']) (by unfold maxLen; omega) (by omega) (by simp; omega) ?_
      intro v5 w10 hown5 hg5 hat5
      have Hown5 := Lib.hid hown5
      have Hg5 := Lib.hid hg5
      have hsz9 : wa.heap.size ≤ w10.heap.size := Nat.le_trans Hb9.out.size hg5.size
      have hVb : ∀ g, V.ownBlock = some g → w.heap.size + 1 ≤ g := own_base Hown.out
      have hr10 : w10.heap[X]? = _ := (hg5.block X (by simp; omega) (fun e => by
        have h1 := Hlf.out x.1.yr X (by rw [HV.out]; exact e.symm)
        have h2 := own_lt (Hgrp.out.own x.1.yr) X (by rw [HV.out]; exact e.symm)
        omega)).trans hr9
      have Hmap10 : Hid (w10.ownsMap Tryz.prog 3 VR w.heap.size N D) := Lib.hid ((hmapa.out.kept (Go.Proofs.YtfmkmhhghmdakaaGreatDoor.Below.grown_none Hb9.out) (by simp)).kept hg5 (fun e => by have := hVb _ e.symm; omega))
      have Hgrp10 : Hid (∀ y, y ≠ x.1.yr → w10.ownsRow (w.heap.size + 1) 172 3 (f y) (ofY (l.take k) y).length (rcCells (ofY (l.take k) y))) := Lib.hid (fun y hy => own_grown (ownsRow_below (hgrpa.out.own y) Hb9.out) hg5 (fun g hg e => by rw [← HV.out] at e; exact hgrpa.out.ap y x.1.yr hy g hg e))
      have Hat5 : Hid (v5.ownBlock = (f x.1.yr).ownBlock ∨ ∃ g, v5.ownBlock = some g ∧ ∀ y, (f y).ownBlock ≠ some g) := Lib.hid (by
        rw [HV.out]
        rcases hat5 with h | h
        · exact .inl h
        · exact .inr ⟨_, h, fun y e => by have := Hlf.out y _ e; simp at this; omega⟩)
      refine hK.out _ _ ⟨Hlook.out _ Hmap10.out, cell_of_row _ _ 0 _ _ _ hr10, cell_of_row _ _ 1 _ _ _ hr10, cell_of_row _ _ 2 _ _ _ hr10⟩ (fun hHeld => ?_)
      clear hK K hown5 hat5 hr9 hr10
      (try simp only [Act.put, List.getElem_toArray, List.getElem_cons_zero, List.getElem_cons_succ, List.setIfInBounds_toArray, List.set_cons_zero, List.set_cons_succ])
      refine wpAnyH_done (by kernel_rfl) ?_ _
      clear hHeld
      show wpList _ _ _ _ _ _
      refine wpList_mapUpdate_own w10 rfl _ _ _ 245 rfl 3 72 lawIntO Tryz.underlying245 _ w.heap.size N _ rfl Hmap10.out (by unfold maxLen; omega) _ _ _ rfl rfl (keyOf_int_mk Tryz.underlying3 (WalkArith.wf_i64 (by omega))) (.held v5) [] rfl ?_
      intro w11 hown11 hg11
      have Hown11 := Lib.hid hown11
      have Hg11 := Lib.hid hg11
      clear hown11 hg11
      go_wp2
      go_roundw
      case rel =>
        refine ⟨k + 1, N + 1, _, (fun y => if y = x.1.yr then v5 else f y), by omega, by go_num, by omega, Hown11.out, ?_, ?_, ?_⟩
        · rw [Hts.out]
          refine Hgrp.out.step x ?_ (fun y hy => ?_) Hat5.out
          · exact own_grown Hown5.out Hg11.out (fun g hg e => by have := own_base Hown5.out g hg; injection e with e; omega)
          · exact own_grown (Hgrp10.out y hy) Hg11.out (fun g hg e => by have := own_base (Hgrp10.out y hy) g hg; injection e with e; omega)
        · have h1 : Below w.heap.size w w10 := ((Hbw.out.trans (Hba.out.mono (by omega))).trans (Hb9.out.mono (by omega))).grown Hg5.out (by simp; omega) (fun g hg => by have := hVb g hg; omega)
          exact h1.grown Hg11.out (by omega) (fun g hg => by injection hg with hg; omega)
        · have := Hg11.out.size; omega
      case measure => simp [intOf]; omega
    · have hkn' : ¬ (k : Int) < (n : Int) := by omega
      have Hend : Hid (l.take k = l) := Lib.hid (List.take_of_length_le (by rw [Hln.out]; omega))
      go_wp2
      go_ret
      exact ⟨_, N, D, f, rfl, Nat.le_refl _, by omega, Hmap.out, by rw [← Hend.out]; exact Hgrp.out, Hbw.out⟩
end Go.Proofs.YtfmkmhhghmdakaaGreatDoor
namespace Go.Proofs.YtfmkmhhghmdakaaGreatDoor
open Go.RowKit Go.Shelf Go.Maps
set_option linter.unusedVariables false
set_option linter.unusedSimpArgs false

theorem rcCells_cons3 (y : Rc × LV) (s : RcL) : rcCells (y :: s) = .int .i64 y.1.yr :: .int .i64 y.1.cr :: .slice y.2.a y.1.rg.length y.2.c :: rcCells s := by simp [rcCells, rcC]
theorem rcCells_take : ∀ (l : RcL) (k : Nat), rcCells (l.take k) = (rcCells l).take (k * 3)
  | [], k => by simp [rcCells]
  | x :: t, 0 => by simp [rcCells]
  | x :: t, k + 1 => by
    rw [List.take_succ_cons, rcCells_cons3, rcCells_cons3, rcCells_take t k, show (k + 1) * 3 = k * 3 + 1 + 1 + 1 from by omega]
    rfl
theorem rcCells_drop : ∀ (l : RcL) (k : Nat), rcCells (l.drop k) = (rcCells l).drop (k * 3)
  | [], k => by simp [rcCells]
  | x :: t, 0 => by simp [rcCells]
  | x :: t, k + 1 => by
    rw [List.drop_succ_cons, rcCells_cons3, rcCells_drop t k, show (k + 1) * 3 = k * 3 + 1 + 1 + 1 from by omega]
    rfl
theorem SlRc.take {w : World} {A : Option Addr} {n c : Nat} {l : RcL} (h : SlRc w A n c l) (k : Nat) (hk : k ≤ n) : SlRc w A k c (l.take k) := by
  have hl := h.len
  refine ⟨by rw [List.length_take]; omega, Nat.le_trans hk h.cap, h.top, ?_, fun x hx => h.fits x (List.mem_of_mem_take hx)⟩
  rcases h.lies with h0 | ⟨b, off, e, hb, hc⟩
  · exact .inl (by omega)
  · refine .inr ⟨b, off, e, hb, fun j u hu => hc j u ?_⟩
    rw [rcCells_take, List.getElem?_take] at hu
    split at hu
    · exact hu
    · cases hu
theorem SlRc.ofRow {w : World} {base c : Nat} {A : Option Addr} {m : RcL} (h : w.ownsRow base 172 3 (.slice A m.length c) m.length (rcCells m)) (hs : ∀ x ∈ m, SlR w x.2.a x.1.rg.length x.2.c x.1.rg) : SlRc w A m.length c m := by
  obtain ⟨A', c', e, h1, h2, h3⟩ := own_slice h
  injection e with e1 e2 e3
  subst e1 e3
  exact ⟨rfl, h2, h3, h1, hs⟩
/-- A test of records, that leaves what was there. -/
def PredRc (f : Nat) (lb : Array Value) (p : Rc × LV → Bool) (l : RcL) (w : World) : Prop :=
  ∀ W, Below w.heap.size w W → ∀ x ∈ l, Calls Tryz.prog f (#[.agg #[.int .i64 x.1.yr, .int .i64 x.1.cr, .slice x.2.a x.1.rg.length x.2.c]] ++ lb) W fun e w' => e = .returned (.bool (p x)) ∧ Below W.heap.size W w'
set_option maxHeartbeats 2000000 in
theorem indexRc_any (f : Nat) (lb : Array Value) (p : Rc × LV → Bool) (A : Option Addr) (n c : Nat) (l : RcL) (w : World) (hA : SlRc w A n c l) (eg : ∀ args w, (callFunc f args).run Tryz.prog w = .ok (.enter f args) w) (hp : PredRc f lb p l w) :
    Calls Tryz.prog 208 #[.slice A n c, .func (.func f) #[] lb] w fun e w' => ∃ k : Int, e = .returned (.int .i64 k) ∧ decide (k ≥ 0) = l.any p ∧ Below w.heap.size w w' := by
  have hcap := hA.cap
  have htop := hA.top
  unfold maxLen at htop
  have HA := Lib.hid hA
  have Hln := Lib.hid hA.len
  have HP := Lib.hid hp
  clear hA hp
  go_enter Tryz.func208, Tryz.ntmps208
  go_upto_region 2 with fail
  go_loopw [5, 8] (fun _ iv wr => ∃ k : Nat, k ≤ n ∧ iv = .int .i64 (k : Int) ∧ (l.take k).any p = false ∧ Below w.heap.size w wr) (fun _ iv _ => n - (intOf iv).toNat)
  case atStart => exact ⟨0, Nat.zero_le _, rfl, rfl, Below.refl _ _⟩
  case round =>
    obtain ⟨k, hk, rfl, hno, hbw⟩ := hrel
    obtain ⟨wo, rfl⟩ : ∃ wo : World, wo = wr := ⟨_, rfl⟩
    have Hno := Lib.hid hno
    have Hbw := Lib.hid hbw
    have hsw := hbw.size
    clear hno hbw
    by_cases hkn : k < n
    · have hkn' : (k : Int) < (n : Int) := by omega
      have hkl : k < l.length := by rw [Hln.out]; exact hkn
      obtain ⟨b, off, rfl, hbl, c0, c1, c2, hS⟩ := (HA.out.below Hbw.out).at k hkl
      have HO := Lib.hid (HP.out wo Hbw.out l[k] (List.getElem_mem hkl))
      have Hs : Hid ((l.take (k + 1)).any p = (false || p l[k])) := Lib.hid (by rw [List.take_succ_eq_append_getElem hkl, List.any_append, Hno.out]; simp)
      have Hy : Hid (p l[k] = true → l.any p = true) := Lib.hid (fun h => List.any_eq_true.2 ⟨l[k], List.getElem_mem hkl, h⟩)
      obtain ⟨x, hx⟩ : ∃ x, x = l[k] := ⟨_, rfl⟩
      rw [← hx] at c0 c1 c2 HO Hs Hy
      clear hS hx
      cases hq : p x with
      | false =>
        rw [hq] at HO Hs
        clear hq
        go_wp2_with (first
          | (go_at_fn f; refine HO.out.mono ?_; rintro e w2 ⟨rfl, hb2⟩; have Hb2 := Lib.hid (Hbw.out.trans (hb2.mono hsw)); clear hb2)
          | fail)
        go_roundw
        case rel => exact ⟨k + 1, by omega, by go_num, Hs.out, Hb2.out⟩
        case measure => simp [intOf]; omega
      | true =>
        rw [hq] at HO
        have Hall := Lib.hid (Hy.out hq)
        clear hq
        go_wp2_with (first
          | (go_at_fn f; refine HO.out.mono ?_; rintro e w2 ⟨rfl, hb2⟩; have Hb2 := Lib.hid (Hbw.out.trans (hb2.mono hsw)); clear hb2)
          | fail)
        go_ret
        exact ⟨_, rfl, by rw [Hall.out]; simp, Hb2.out⟩
    · have hkn' : ¬ (k : Int) < (n : Int) := by omega
      have Hall : Hid (l.any p = false) := Lib.hid (by have := Hno.out; rwa [List.take_of_length_le (by rw [Hln.out]; omega)] at this)
      go_wp2
      go_ret
      exact ⟨_, rfl, by rw [Hall.out]; simp, Hbw.out⟩
theorem containsRc_any (f : Nat) (lb : Array Value) (p : Rc × LV → Bool) (A : Option Addr) (n c : Nat) (l : RcL) (w : World) (hA : SlRc w A n c l) (eg : ∀ args w, (callFunc f args).run Tryz.prog w = .ok (.enter f args) w) (hp : PredRc f lb p l w) :
    Calls Tryz.prog 116 #[.slice A n c, .func (.func f) #[] lb] w fun e w' => e = .returned (.bool (l.any p)) ∧ Below w.heap.size w w' := by
  have HI := Lib.hid (indexRc_any f lb p A n c l w hA eg hp)
  clear hA hp eg
  generalize l.any p = r at *
  go_enter Tryz.func116, Tryz.ntmps116
  go_wp2_with (go_at_call 208; refine HI.out.mono ?_; rintro e w' ⟨k, rfl, hk, hb⟩; subst hk; have Hb := Lib.hid hb; clear hb)
  go_ret
  exact ⟨rfl, Hb.out⟩
set_option maxHeartbeats 1000000 in
theorem chk1_any (x r : Rc) (v u : LV) (g : Nat) (w : World) (hx : SlR w v.a x.rg.length v.c x.rg) (hr : SlR w u.a r.rg.length u.c r.rg) (hg : w.cell? ⟨g, 2, none⟩ = some (.slice u.a r.rg.length u.c)) (hgl : g < w.heap.size) :
    Calls Tryz.prog 200 #[.agg #[.int .i64 x.yr, .int .i64 x.cr, .slice v.a x.rg.length v.c], .pointer (some ⟨g, 0, none⟩)] w fun e w' => e = .returned (.bool (meetsP x.rg r.rg)) ∧ Below w.heap.size w w' := by
  have HM := Lib.hid (fun W (h1 : SlR W v.a x.rg.length v.c x.rg) (h2 : SlR W u.a r.rg.length u.c r.rg) => meets_any _ _ _ _ _ _ x.rg r.rg W h1 h2)
  have Hx := Lib.hid hx
  have Hr := Lib.hid hr
  have Hg := Lib.hid hg
  clear hx hr hg
  generalize meetsP x.rg r.rg = b at *
  generalize x.rg.length = nx at *
  generalize r.rg.length = nr at *
  go_enter Tryz.func200, Tryz.ntmps200
  go_upto_region 1 with fail
  obtain ⟨w1, hw1⟩ : ∃ w1 : World, w1 = w.alloc (.cells #[.int .i64 x.yr, .int .i64 x.cr, .slice v.a nx v.c] 172) := ⟨_, rfl⟩
  rw [← hw1]
  have hr1 : w1.heap[w.heap.size]? = some (.cells #[.int .i64 x.yr, .int .i64 x.cr, .slice v.a nx v.c] 172 (0, 0)) := by rw [hw1]; exact heap_alloc_new w _
  have Hb1 : Hid (Below w.heap.size w w1) := Lib.hid (by rw [hw1]; exact (by repeat' (first | with_reducible exact Below.refl _ _ | with_reducible refine below_drewN ?_ _ | with_reducible refine Below.drew ?_ | with_reducible refine Below.alloc ?_ ?_ _ | with_reducible refine Below.setCell ?_ ?_ _ | with_reducible refine Below.trans ?_ (Below.mono (by with_reducible assumption) ?_) | (simp; done) | (simp; omega) | omega)))
  have hs1 : w.heap.size ≤ w1.heap.size := Hb1.out.size
  have hg1 := (Hb1.out.cell (p := ⟨g, 2, none⟩) hgl).trans Hg.out
  have d2 := cell_of_row _ _ 2 _ _ _ hr1
  have Hx1 := Lib.hid (Hx.out.below Hb1.out)
  have Hr1 := Lib.hid (Hr.out.below Hb1.out)
  clear hw1 hr1
  go_wp2_with (first
    | (go_at_call 27; refine (HM.out _ Hx1.out Hr1.out).mono ?_; rintro e w2 ⟨rfl, hb2⟩; have Hb2 := Lib.hid hb2; clear hb2)
    | fail)
  go_ret
  exact ⟨rfl, Hb1.out.trans (Hb2.out.mono hs1)⟩
end Go.Proofs.YtfmkmhhghmdakaaGreatDoor
namespace Go.Proofs.YtfmkmhhghmdakaaGreatDoor
open Go.RowKit Go.Shelf
set_option linter.unusedVariables false
set_option linter.unusedSimpArgs false

/-- A row of records whose rectangles lie in rows of another base. -/
structure RcB (w : World) (B b0 : Nat) (v : Value) (l : RcL) : Prop where
  o : w.ownsRow B 172 3 v l.length (rcCells l)
  fs : ∀ x ∈ l, w.ownsRow b0 68 4 (.slice x.2.a x.1.rg.length x.2.c) x.1.rg.length (rCells x.1.rg)
  ap : ∀ x ∈ l, ∀ g, v.ownBlock = some g → (Value.slice x.2.a x.1.rg.length x.2.c).ownBlock ≠ some g
section
variable {w w' : World} {B b0 : Nat} {v : Value} {l : RcL}
theorem RcB.nil (w : World) (B b0 : Nat) : RcB w B b0 (.slice none 0 0) [] := ⟨World.ownsRow_nil _ _ _ _, fun _ h => by simp at h, fun _ h => by simp at h⟩
theorem RcB.below (h : RcB w B b0 v l) (hb : Below w.heap.size w w') : RcB w' B b0 v l := ⟨ownsRow_below h.o hb, fun x hx => ownsRow_below (h.fs x hx) hb, h.ap⟩
theorem RcB.sl {A : Option Addr} {c : Nat} (h : RcB w B b0 (.slice A l.length c) l) : SlRc w A l.length c l := SlRc.ofRow h.o fun x hx => SlR.ofR (h.fs x hx)
/-- A block changes that is none of these. -/
theorem RcB.apart {row : Option Nat} (h : RcB w B b0 v l) (hg : w.grownBy w' row) (hv : ∀ g, v.ownBlock = some g → row ≠ some g) (hf : ∀ x ∈ l, ∀ g, (Value.slice x.2.a x.1.rg.length x.2.c).ownBlock = some g → row ≠ some g) : RcB w' B b0 v l :=
  ⟨own_grownY h.o hg hv, fun x hx => own_grownY (h.fs x hx) hg (hf x hx), h.ap⟩
theorem RcB.push {wa w5 : World} (h : RcB w B b0 v l) (x : Rc × LV) (hx : w.ownsRow b0 68 4 (.slice x.2.a x.1.rg.length x.2.c) x.1.rg.length (rCells x.1.rg)) (hxa : ∀ g, v.ownBlock = some g → (Value.slice x.2.a x.1.rg.length x.2.c).ownBlock ≠ some g) {v5 : Value}
    (ha : Below w.heap.size w wa) (hg : wa.grownBy w5 v.ownBlock) (hown : w5.ownsRow B 172 3 v5 (l.length + 1) (rcCells l ++ [.int .i64 x.1.yr, .int .i64 x.1.cr, .slice x.2.a x.1.rg.length x.2.c])) (hat : v5.ownBlock = v.ownBlock ∨ v5.ownBlock = some wa.heap.size) : RcB w5 B b0 v5 (l ++ [x]) := by
  have hall : ∀ y ∈ l ++ [x], w.ownsRow b0 68 4 (.slice y.2.a y.1.rg.length y.2.c) y.1.rg.length (rCells y.1.rg) ∧ ∀ g, v.ownBlock = some g → (Value.slice y.2.a y.1.rg.length y.2.c).ownBlock ≠ some g := by
    intro y hy
    rcases List.mem_append.1 hy with h1 | h1
    · exact ⟨h.fs y h1, h.ap y h1⟩
    · rw [List.mem_singleton] at h1
      subst h1
      exact ⟨hx, hxa⟩
  refine ⟨by rw [List.length_append, rcCells_snoc]; exact hown, fun y hy => own_grownY (ownsRow_below (hall y hy).1 ha) hg (fun g hg2 e => (hall y hy).2 g e hg2), fun y hy g hg2 e => ?_⟩
  rcases hat with h0 | h0
  · exact (hall y hy).2 g (by rw [← h0]; exact hg2) e
  · rw [h0] at hg2
    injection hg2 with hg2
    have := own_ltY (hall y hy).1 g e
    have := ha.size
    omega
end
theorem SlRc.reads {w : World} {A : Option Addr} {n c : Nat} {l : RcL} (h : SlRc w A n c l) : Reads w w.heap.size 3 A n (rcCells l) := h.lies.reads (size := 3) (by rw [rcCells_len, h.len])
theorem SlRc.reads_take {w : World} {A : Option Addr} {n c : Nat} {l : RcL} (h : SlRc w A n c l) (k : Nat) (hk : k ≤ n) : Reads w w.heap.size 3 A k (rcCells (l.take k)) := by
  have h0 := h.reads
  have hln := h.len
  refine ⟨by rw [rcCells_len, List.length_take]; omega, fun hk0 => ?_⟩
  obtain ⟨ad, e, h1, h2⟩ := h0.2 (by omega)
  refine ⟨ad, e, h1, fun j u hu => h2 j u ?_⟩
  rw [rcCells_take, List.getElem?_take] at hu
  split at hu
  · exact hu
  · cases hu
theorem SlRc.reads_drop {w : World} {b off n c : Nat} {l : RcL} (h : SlRc w (some ⟨b, off, none⟩) n c l) (k : Nat) (hk : k ≤ n) (hc : ¬ c = k) : Reads w w.heap.size 3 (some ⟨b, off + k * 3, none⟩) (n - k) (rcCells (l.drop k)) := by
  have h1 := h.reads.cut (k := k) (cap := c) hk h.cap
  rw [if_neg hc] at h1
  simp only [Option.map_some, add_none] at h1
  rw [rcCells_drop]
  exact h1
/-- Where the place is. -/
theorem place_eq {α : Type} (p : α → Bool) (o : List α) (j : Nat) (hj : j ≤ o.length) (h1 : ∀ i (hi : i < o.length), i < j → p o[i] = true) (h2 : ∀ h : j < o.length, p o[j] = false) : o.takeWhile p = o.take j ∧ o.dropWhile p = o.drop j := by
  have e : ∀ a b : List α, (∀ x ∈ a, p x = true) → (∀ x t, b = x :: t → p x = false) → (a ++ b).takeWhile p = a ∧ (a ++ b).dropWhile p = b := by
    intro a b ha hb
    induction a with
    | nil =>
      cases b with
      | nil => simp
      | cons x t => have := hb x t rfl; simp [List.takeWhile_cons, List.dropWhile_cons, this]
    | cons x t ih =>
      have h3 := ha x (by simp)
      have h4 := ih fun y hy => ha y (List.mem_cons_of_mem _ hy)
      simp [List.takeWhile_cons, List.dropWhile_cons, h3, h4.1, h4.2]
  have h3 := e (o.take j) (o.drop j) (fun x hx => by
    obtain ⟨i, hi, rfl⟩ := List.mem_take_iff_getElem.1 hx
    exact h1 i (by omega) (by omega)) (fun x t hxt => by
    have hjl : j < o.length := by
      rcases Nat.lt_or_ge j o.length with h | h
      · exact h
      · rw [List.drop_eq_nil_of_le h] at hxt; cases hxt
    rw [List.drop_eq_getElem_cons hjl] at hxt
    injection hxt with hx1 _
    rw [← hx1]; exact h2 hjl)
  rw [List.take_append_drop] at h3
  exact h3
/-- What Add of the reference leaves. -/
def Add15Post (w : World) (b0 : Nat) (l : RcL) (y c : Int) (a : List R4) (e : Ending) (w' : World) : Prop :=
  ∃ (m : RcL) (v : Value), e = .returned (.tuple #[v, .int .i64 0]) ∧ rcs m = addH (rcs l) y c a ∧ w'.ownsRow w.heap.size 172 3 v m.length (rcCells m) ∧
    (∀ x ∈ m, w'.ownsRow b0 68 4 (.slice x.2.a x.1.rg.length x.2.c) x.1.rg.length (rCells x.1.rg)) ∧ Below w.heap.size w w'
theorem howR_one : howR 1 = orB := by first | rfl | (funext x y; cases x <;> cases y <;> rfl)
theorem howR_three : howR 3 = notB := by first | rfl | (funext x y; cases x <;> cases y <;> rfl)
end Go.Proofs.YtfmkmhhghmdakaaGreatDoor
namespace Go.Proofs.YtfmkmhhghmdakaaGreatDoor
open Go.RowKit Go.Shelf
set_option linter.unusedVariables false
set_option linter.unusedSimpArgs false

/-- The catalogue of the law. -/
def grassy : List Cp := [⟨⟨#[103, 114, 97, 115, 115]⟩, 1, 2⟩, ⟨⟨#[109, 97, 105, 122, 101]⟩, 2, 0⟩, ⟨⟨#[114, 121, 101]⟩, 3, 0⟩]
/-- A history that is right, in rows of a base. -/
structure HyAt (w : World) (B : Nat) (v : Value) (l : RcL) : Prop where
  o : w.ownsRow B 172 3 v l.length (rcCells l)
  fs : ∀ x ∈ l, w.ownsRow B 68 4 (.slice x.2.a x.1.rg.length x.2.c) x.1.rg.length (rCells x.1.rg)
  hy : HyR (rcs l)
theorem HyAt.only {w w' : World} {B g : Nat} {v : Value} {l : RcL} (h : HyAt w B v l) (hg : w.grownBy w' (some g)) (hB : g < B) : HyAt w' B v l := ⟨ownsRow_only h.o hg hB, fun x hx => ownsRow_only (h.fs x hx) hg hB, h.hy⟩
theorem HyAt.below {w w' : World} {B : Nat} {v : Value} {l : RcL} (h : HyAt w B v l) (hb : Below w.heap.size w w') : HyAt w' B v l := ⟨ownsRow_below h.o hb, fun x hx => ownsRow_below (h.fs x hx) hb, h.hy⟩
theorem HyAt.sl {w : World} {B c : Nat} {A : Option Addr} {l : RcL} (h : HyAt w B (.slice A l.length c) l) : SlRc w A l.length c l := SlRc.ofRow h.o fun x hx => SlR.ofR (h.fs x hx)
theorem Add15Post.hy {w w' : World} {B b0 : Nat} {l : RcL} {y c : Int} {a : List R4} {k : Nat} {e : Ending} (h : Add15Post w b0 l y c a e w') (hl : HyR (rcs l)) (hn : l.length < 30) (hy : 0 ≤ y ∧ y ≤ 100) (hc : 0 ≤ c ∧ c < 3) (hk : k ≤ 120) (ha : Reg 9 k a) (hB : b0 ≤ w.heap.size) :
    ∃ (m : RcL) (v : Value), e = .returned (.tuple #[v, .int .i64 0]) ∧ HyAt w' b0 v m ∧ m.length ≤ l.length + 1 ∧ Below w.heap.size w w' := by
  obtain ⟨m, v, he, hm, ho, hf, hb⟩ := h
  have h1 := addH_ok hl (by rw [rcs_len]; omega) hy hc hk ha
  rw [← hm] at h1
  exact ⟨m, v, he, ⟨own_rebase ho hB, hf, h1.1⟩, by have := h1.2; rw [rcs_len, rcs_len] at this; exact this, hb⟩
theorem reg8 : Reg 9 6 [⟨0, 0, 8, 8⟩] := one_reg _ (by simp)
theorem HyR.nil : HyR (rcs []) := ⟨⟨fun x h => (by cases h), List.Pairwise.nil, List.Pairwise.nil, by simp [rcs]⟩, fun x h => (by cases h), fun x h => (by cases h)⟩
/-- What Grassy leaves. -/
def GrPost (w : World) (g : Nat) (e : Ending) (w' : World) : Prop :=
  ∃ (l : RcL) (v : Value) (r : List Int) (C : Nat), e = .returned (.tuple #[.slice (some ⟨C, 0, none⟩) 3 3, v]) ∧ SlC w' (some ⟨C, 0, none⟩) 3 3 grassy ∧ HyAt w' w.heap.size v l ∧ l.length ≤ 24 ∧ TapeAt w' g r ∧ w.grownBy w' (some g)
/-- The block of the catalogue. -/
abbrev GrBlk (W : World) (b : Nat) : Prop := W.heap[b]? = some (.cells #[.string ⟨#[103, 114, 97, 115, 115]⟩, .int .i64 1, .int .i64 2, .string ⟨#[109, 97, 105, 122, 101]⟩, .int .i64 2, .int .i64 0, .string ⟨#[114, 121, 101]⟩, .int .i64 3, .int .i64 0] 91 (0, 0))
theorem GrBlk.sl {W : World} {b : Nat} (h : GrBlk W b) (hb : b < W.heap.size) : SlC W (some ⟨b, 0, none⟩) 3 3 grassy := by
  refine ⟨rfl, Nat.le_refl _, by unfold maxLen; omega, .inr ⟨b, 0, rfl, hb, fun j u hu => ?_⟩⟩
  rw [cell_of_row W b (0 + j) _ _ _ h, Nat.zero_add]
  rw [← Array.getElem?_toList]
  exact hu
end Go.Proofs.YtfmkmhhghmdakaaGreatDoor
namespace Go.Proofs.YtfmkmhhghmdakaaGreatDoor
open Go.RowKit
set_option linter.unusedVariables false
set_option linter.unusedSimpArgs false

/-- The rectangles of the crops that are chosen in a year. -/
def rectsP (l : List Rc) (y : Int) (f : Int → Bool) : List R4 := l.flatMap fun x => if x.yr = y ∧ f x.cr = true then x.rg else []
theorem rects_of {l : List Rc} {y : Int} {f : Int → Bool} {q : R4} (h : q ∈ rectsP l y f) : ∃ x ∈ l, x.yr = y ∧ f x.cr = true ∧ q ∈ x.rg := by
  obtain ⟨x, hx, hq⟩ := List.mem_flatMap.1 h
  split at hq
  · rename_i h1; exact ⟨x, hx, h1.1, h1.2, hq⟩
  · cases hq
theorem rects_in {l : List Rc} (h : HyR l) (y : Int) (f : Int → Bool) : InS 9 (rectsP l y f) := fun q hq => by
  obtain ⟨x, hx, _, _, hq⟩ := rects_of hq
  exact (h.reg x hx).ins q hq
theorem rects_mem (l : List Rc) (y : Int) (f : Int → Bool) (px py : Int) : inL (rectsP l y f) px py = true ↔ ∃ x ∈ l, x.yr = y ∧ f x.cr = true ∧ inL x.rg px py = true := by
  unfold inL
  simp only [List.any_eq_true]
  constructor
  · rintro ⟨q, hq, h⟩
    obtain ⟨x, hx, h1, h2, hq⟩ := rects_of hq
    exact ⟨x, hx, h1, h2, q, hq, h⟩
  · rintro ⟨x, hx, h1, h2, q, hq, h⟩
    exact ⟨q, List.mem_flatMap.2 ⟨x, hx, by rw [if_pos ⟨h1, h2⟩]; exact hq⟩, h⟩
theorem one_crop {l : List Rc} (h : HyR l) {x z : Rc} (hx : x ∈ l) (hz : z ∈ l) (hy : x.yr = z.yr) {px py : Int} (h1 : inL x.rg px py = true) (h2 : inL z.rg px py = true) : x = z := by
  obtain ⟨i, hi, rfl⟩ := List.mem_iff_getElem.1 hx
  obtain ⟨j, hj, rfl⟩ := List.mem_iff_getElem.1 hz
  have key : ∀ a b (ha : a < l.length) (hb : b < l.length), a < b → l[a].yr = l[b].yr → inL l[a].rg px py = true → inL l[b].rg px py = true → False := fun a b ha hb hab hy h1 h2 => by
    have := List.pairwise_iff_getElem.1 h.hy.dis a b ha hb hab hy
    exact (meets_reg (s := 9) (m := 81) (k := 81) (by omega) (by omega) (by omega) (h.reg _ (List.getElem_mem ha)) (h.reg _ (List.getElem_mem hb))).1 this px py ⟨h1, h2⟩
  rcases Nat.lt_trichotomy i j with h3 | h3 | h3
  · exact (key i j hi hj h3 hy h1 h2).elim
  · subst h3; rfl
  · exact (key j i hj hi h3 hy.symm h2 h1).elim
theorem rects_dis {l : List Rc} (h : HyR l) (y : Int) (f g : Int → Bool) (hfg : ∀ c, f c = true → g c = false) (px py : Int) (h1 : inL (rectsP l y f) px py = true) : inL (rectsP l y g) px py = false := by
  rw [Bool.eq_false_iff]
  intro h2
  obtain ⟨x, hx, a1, a2, a3⟩ := (rects_mem l y f px py).1 h1
  obtain ⟨z, hz, b1, b2, b3⟩ := (rects_mem l y g px py).1 h2
  have := one_crop h hx hz (by rw [a1, b1]) a3 b3
  subst this
  rw [hfg _ a2] at b2; cases b2
theorem rects_len {l : List Rc} (h : HyR l) (y : Int) (f : Int → Bool) : (rectsP l y f).length ≤ 243 := by
  have h1 : ∀ m : List Rc, (∀ x ∈ m, x.rg.length ≤ 81) → (rectsP m y f).length ≤ 81 * (m.filter fun x => decide (x.yr = y)).length := by
    intro m hm
    induction m with
    | nil => simp [rectsP]
    | cons x t ih =>
      have h2 := ih fun z hz => hm z (List.mem_cons_of_mem _ hz)
      have h3 := hm x (by simp)
      have e : rectsP (x :: t) y f = (if x.yr = y ∧ f x.cr = true then x.rg else []) ++ rectsP t y f := by simp [rectsP]
      rw [e, List.length_append, List.filter_cons]
      by_cases h4 : x.yr = y
      · rw [if_pos (decide_eq_true h4), List.length_cons]
        split <;> (try simp only [List.length_nil]) <;> omega
      · rw [if_neg (fun h => h4 h.1), if_neg (by simpa using h4), List.length_nil]
        omega
  have h2 : ((l.filter fun x => decide (x.yr = y)).map (·.cr)).Pairwise (· < ·) := by
    rw [List.pairwise_map]
    have h3 : (l.filter fun x => decide (x.yr = y)).Pairwise rcLt := h.hy.up.sublist List.filter_sublist
    refine List.Pairwise.imp_of_mem ?_ h3
    intro a b ha hb hlt
    have h4 : a.yr = y := by simpa using (List.mem_filter.1 ha).2
    have h5 : b.yr = y := by simpa using (List.mem_filter.1 hb).2
    rcases hlt with h6 | h6 <;> omega
  have h3 := lt_len _ 0 2 h2 (fun k hk => by
    obtain ⟨x, hx, rfl⟩ := List.mem_map.1 hk
    have h6 := (List.mem_filter.1 hx).1
    have h4 := (h.hy.ok x h6).cr
    have h5 := h.cr x h6
    omega) (by omega)
  rw [List.length_map] at h3
  have := h1 l fun x hx => (h.reg x hx).len
  omega
theorem cuts_side9 {l : List R4} (h : InS 9 l) : (cutsP l).length ≤ 10 := by
  have h1 : (cutsP l).Pairwise (· < ·) := (asc_all _).1
  have := lt_len _ 0 9 h1 (fun z hz => by
    have h1 := ((asc_all _).2.1 z).1 hz
    obtain ⟨q, hq, hz⟩ := List.mem_flatMap.1 h1
    have := h q hq
    simp only [List.mem_cons, List.not_mem_nil, or_false] at hz
    rcases hz with rfl | rfl <;> omega) (by omega)
  omega
theorem canon_reg9 {l : List R4} (h : InS 9 l) : Reg 9 81 (canonP l) := ⟨canonP_in h, canonP_idem h, canonP_side (s := 9) h⟩
/-- Grassland of a year, that was there already some years before. -/
def permN (l : List Rc) (y : Int) (f : Int → Bool) : Nat → List R4
  | 0 => rectsP l y f
  | n + 1 => chooseP andB (permN l y f n) (rectsP l (y - ((n + 1 : Nat) : Int)) f)
theorem perm_in {l : List Rc} (h : HyR l) (y : Int) (f : Int → Bool) : ∀ n, InS 9 (permN l y f n)
  | 0 => rects_in h y f
  | n + 1 => choose_in andB rfl (perm_in h y f n) (rects_in h _ f)
theorem perm_len {l : List Rc} (h : HyR l) (y : Int) (f : Int → Bool) : ∀ n, (permN l y f n).length ≤ 243
  | 0 => rects_len h y f
  | n + 1 => Nat.le_trans (choose_len andB 9 _ _ (perm_in h y f n) (rects_in h _ f)) (by omega)
theorem perm_mem {l : List Rc} (h : HyR l) (y : Int) (f : Int → Bool) (px py : Int) : ∀ n, inL (permN l y f n) px py = true → inL (rectsP l y f) px py = true
  | 0, h1 => h1
  | n + 1, h1 => by
    rw [permN, choose_mem andB rfl (perm_in h y f n).pos (rects_in h _ f).pos] at h1
    unfold andB at h1
    rw [Bool.and_eq_true] at h1
    exact perm_mem h y f px py n h1.1
/-- What is ploughed in a year. -/
def ploughN (l : List Rc) (y : Int) (f : Int → Bool) : List R4 := chooseP andB (permN l (y - 1) f 4) (rectsP l y fun c => !f c)
theorem plough_reg {l : List Rc} (h : HyR l) (y : Int) (f : Int → Bool) : Reg 9 81 (ploughN l y f) := choose_reg andB rfl 9 (perm_in h _ f 4) (rects_in h _ _)
theorem plough_mem {l : List Rc} (h : HyR l) (y : Int) (f : Int → Bool) (px py : Int) : inL (ploughN l y f) px py = (inL (permN l (y - 1) f 4) px py && inL (rectsP l y fun c => !f c) px py) := choose_mem andB rfl (perm_in h _ f 4).pos (rects_in h _ _).pos px py
/-- What is ploughed is what was permanent, is known, and is no grass. -/
theorem plough_want {l : List Rc} (h : HyR l) (y : Int) (f : Int → Bool) : chooseP andB (chooseP notB (canonP (permN l (y - 1) f 4)) (canonP (rectsP l y f))) (canonP (rectsP l y fun _ => true)) = ploughN l y f := by
  have i1 := perm_in h (y - 1) f 4
  have i2 := rects_in h y f
  have i3 := rects_in h y fun _ => true
  refine choose_is rfl (plough_reg h y f).ins.pos (plough_reg h y f).canon (choose_in notB rfl (canonP_in i1) (canonP_in i2)).pos (canonP_in i3).pos fun px py => ?_
  rw [choose_mem notB rfl (canonP_in i1).pos (canonP_in i2).pos, (canonP_canon _ i1.pos).mem, (canonP_canon _ i2.pos).mem, (canonP_canon _ i3.pos).mem, plough_mem h]
  unfold andB notB
  have h1 : inL (rectsP l y fun c => !f c) px py = (!inL (rectsP l y f) px py && inL (rectsP l y fun _ => true) px py) := by
    refine bool_eq ?_
    rw [Bool.and_eq_true, Bool.not_eq_true']
    constructor
    · intro h2
      refine ⟨rects_dis h y (fun c => !f c) f (fun c hc => by simpa using hc) px py h2, ?_⟩
      obtain ⟨x, hx, a1, a2, a3⟩ := (rects_mem _ _ _ _ _).1 h2
      exact (rects_mem _ _ _ _ _).2 ⟨x, hx, a1, rfl, a3⟩
    · rintro ⟨h2, h3⟩
      obtain ⟨x, hx, a1, _, a3⟩ := (rects_mem _ _ _ _ _).1 h3
      refine (rects_mem _ _ _ _ _).2 ⟨x, hx, a1, ?_, a3⟩
      cases hf : f x.cr with
      | false => rfl
      | true =>
        have := (rects_mem l y f px py).2 ⟨x, hx, a1, hf, a3⟩
        rw [h2] at this; cases this
  rw [h1, Bool.and_assoc]
theorem plough_yes {l : List Rc} (h : HyR l) (y : Int) (f : Int → Bool) : chooseP andB (ploughN l y f) (rectsP l (y - 1) f) = ploughN l y f := by
  refine choose_is rfl (plough_reg h y f).ins.pos (plough_reg h y f).canon (plough_reg h y f).ins.pos (rects_in h _ f).pos fun px py => ?_
  unfold andB
  cases h1 : inL (ploughN l y f) px py with
  | false => rfl
  | true =>
    rw [plough_mem h, Bool.and_eq_true] at h1
    rw [perm_mem h _ f px py 4 h1.1]; rfl
theorem plough_no {l : List Rc} (h : HyR l) (y : Int) (f : Int → Bool) : chooseP andB (ploughN l y f) (rectsP l (y - 1) fun c => !f c) = [] := by
  refine (choose_nil rfl (plough_reg h y f).ins (rects_in h _ _)).2 fun px py => ?_
  unfold andB
  cases h1 : inL (ploughN l y f) px py with
  | false => rfl
  | true =>
    rw [plough_mem h, Bool.and_eq_true] at h1
    rw [rects_dis h (y - 1) f (fun c => !f c) (fun c hc => by simp [hc]) px py (perm_mem h _ f px py 4 h1.1)]; rfl
theorem choose_self {a : List R4} (h : InS 9 a) : chooseP notB a a = [] := (choose_nil rfl h h).2 fun px py => by unfold notB; cases inL a px py <;> rfl
theorem choose_empty : chooseP notB [] [] = [] := choose_self fun q hq => by cases hq
end Go.Proofs.YtfmkmhhghmdakaaGreatDoor
namespace Go.Proofs.YtfmkmhhghmdakaaGreatDoor
open Go.RowKit Go.Shelf Go.Maps
set_option linter.unusedVariables false
set_option linter.unusedSimpArgs false

theorem ofY_pair {l : RcL} (h : HyOk (rcs l)) (y : Int) : (ofY l y).Pairwise fun a b => meetsP a.1.rg b.1.rg = false := by
  have h1 : (rcs l).Pairwise fun a b => a.yr = b.yr → meetsP a.rg b.rg = false := h.dis
  unfold rcs at h1
  rw [List.pairwise_map] at h1
  unfold ofY
  refine List.Pairwise.imp_of_mem ?_ (List.Pairwise.filter _ h1)
  intro a b ha hb hab
  have h2 := (List.mem_filter.1 ha).2
  have h3 := (List.mem_filter.1 hb).2
  exact hab (by simp at h2 h3; omega)
set_option maxHeartbeats 16000000 in
set_option maxRecDepth 100000 in
theorem checkHy_any (A : Option Addr) (n c : Nat) (l : RcL) (w : World) (hA : SlRc w A n c l) (hl : HyOk (rcs l)) :
    Calls Tryz.prog 98 #[.slice A n c] w fun e w' => e = .returned (.int .i64 0) ∧ Below w.heap.size w w' := by
  have hln := hA.len
  have hn200 : n ≤ 200 := by have := hl.len; rw [rcs_len] at this; omega
  have hn200' : ¬ (200 : Int) < (n : Int) := by omega
  have HY := Lib.hid (fun W (h : SlRc W A n c l) => years_any A n c l W h hn200 (fun x hx => (hl.ok x.1 (List.mem_map_of_mem hx)).yr))
  have eg : ∀ args w, (callFunc 200 args).run Tryz.prog w = .ok (.enter 200 args) w := enters_of Tryz.func200 (by kernel_rfl) rfl
  have Heg := Lib.hid eg
  have HA := Lib.hid hA
  have HL := Lib.hid hl
  have Hln := Lib.hid hln
  clear hA hl hln eg
  go_enter Tryz.func98, Tryz.ntmps98
  go_wp2
  go_loopw [3, 4, 5, 15] (fun _ _ _ iv wr => ∃ i : Nat, i ≤ n ∧ iv = .int .i64 (i : Int) ∧ Below w.heap.size w wr) (fun _ _ _ iv _ => n - (intOf iv).toNat)
  case atStart => exact ⟨0, Nat.zero_le _, rfl, Below.refl _ _⟩
  case round =>
    obtain ⟨i, hi, rfl, hbw⟩ := hrel
    obtain ⟨wo, rfl⟩ : ∃ wo : World, wo = wr := ⟨_, rfl⟩
    have Hbw := Lib.hid hbw
    have hsw := hbw.size
    clear hbw
    by_cases hin : i < n
    · have hin' : (i : Int) < (n : Int) := by omega
      have hil : i < l.length := by rw [Hln.out]; exact hin
      obtain ⟨b, off, rfl, hbl, c0, c1, c2, hS⟩ := (HA.out.below Hbw.out).at i hil
      have hok := HL.out.ok l[i].1 (List.mem_map_of_mem (List.getElem_mem hil))
      have HSi := Lib.hid (fun W (h : SlR W l[i].2.a l[i].1.rg.length l[i].2.c l[i].1.rg) => singleRc_any l[i].1 l[i].2 W hok h)
      have hup := fun (h0 : 0 < i) => HL.out.step (i - 1) i (by omega) hil
      have Hup := Lib.hid hup
      obtain ⟨x, hx⟩ : ∃ x, x = l[i] := ⟨_, rfl⟩
      rw [← hx] at c0 c1 c2 hS HSi
      have Hx := Lib.hid hx
      have HS := Lib.hid hS
      clear hS hup hx hok
      go_upto_region 6 with fail
      obtain ⟨w1, hw1⟩ : ∃ w1 : World, w1 = wo.alloc (.cells #[.int .i64 x.1.yr, .int .i64 x.1.cr, .slice x.2.a x.1.rg.length x.2.c] 172) := ⟨_, rfl⟩
      rw [← hw1]
      obtain ⟨X, hX⟩ : ∃ X, X = wo.heap.size := ⟨_, rfl⟩
      have Hr1 : Hid (w1.heap[X]? = some (.cells #[.int .i64 x.1.yr, .int .i64 x.1.cr, .slice x.2.a x.1.rg.length x.2.c] 172 (0, 0))) := Lib.hid (by rw [hw1, hX]; exact heap_alloc_new wo _)
      have Hb1 : Hid (Below wo.heap.size wo w1) := Lib.hid (by rw [hw1]; exact (by repeat' (first | with_reducible exact Below.refl _ _ | with_reducible refine below_drewN ?_ _ | with_reducible refine Below.drew ?_ | with_reducible refine Below.alloc ?_ ?_ _ | with_reducible refine Below.setCell ?_ ?_ _ | with_reducible refine Below.trans ?_ (Below.mono (by with_reducible assumption) ?_) | (simp; done) | (simp; omega) | omega)))
      have hs1 : X < w1.heap.size := by rw [hw1, hX]; simp
      have hXo : wo.heap.size ≤ X := by omega
      have HS1 := Lib.hid (HS.out.below Hb1.out)
      have d0 := cell_of_row _ _ 0 _ _ _ Hr1.out
      have d1 := cell_of_row _ _ 1 _ _ _ Hr1.out
      have d2 := cell_of_row _ _ 2 _ _ _ Hr1.out
      rw [← hX]
      clear hw1 hX c0 c1 c2
      go_upto_region 9 with (first
        | (go_at_call 198
           refine (HSi.out _ HS1.out).mono ?_
           rintro e w2 ⟨rfl, hb2⟩
           have hr2 := (hb2.block X hs1).trans Hr1.out
           have Hr2 := Lib.hid hr2
           have Hb2 := Lib.hid (Hb1.out.trans (hb2.mono (by omega)))
           have hs2 : X < w2.heap.size := Nat.lt_of_lt_of_le hs1 hb2.size
           have e0 := cell_of_row _ _ 0 _ _ _ hr2
           have e1 := cell_of_row _ _ 1 _ _ _ hr2
           have e2 := cell_of_row _ _ 2 _ _ _ hr2
           clear hb2 hr2 d0 d1 d2)
        | fail)
      have Hb3 := Lib.hid (Hbw.out.trans (Hb2.out.mono hsw))
      rcases Nat.eq_zero_or_pos i with h0 | h0
      · subst h0
        go_quiet (fail)
        go_wp2
        go_roundw
        case rel => exact ⟨1, by omega, by go_num, ⟨Hb3.out.os, Hb3.out.tape, Hb3.out.output, Hb3.out.size, Hb3.out.block⟩⟩
        case measure => simp [intOf]; omega
      · have h0' : (0 : Int) < (i : Int) := by omega
        obtain ⟨b', off', hbe, hbl2, f0, f1, f2, _⟩ := (HA.out.below Hb3.out).at (i - 1) (by omega)
        injection hbe with hbe
        injection hbe with hb1 hb2
        subst hb1 hb2
        have hlt := Hup.out h0
        rw [← Hx.out] at hlt
        obtain ⟨y, hy⟩ : ∃ y, y = l[i - 1]'(by omega) := ⟨_, rfl⟩
        rw [← hy] at hlt f0 f1 f2
        have HC := Lib.hid (fun W => compareRc_any y.1 x.1 y.2 x.2 W)
        rw [rcCmp_lt.2 hlt] at HC
        obtain ⟨j, hj⟩ : ∃ j : Nat, j = i - 1 := ⟨_, rfl⟩
        rw [← hj] at f0 f1 f2
        have hwr : IntKind.i64.wrap ((i : Int) - 1) = (j : Int) := by rw [IntWalk.i64_in _ (by omega)]; omega
        have hj1 : j < n := by omega
        have hj2 : (j : Int) < (n : Int) := by omega
        have hj0 : (0 : Int) ≤ (j : Int) := by omega
        clear hy hj hlt
        go_region_held3 (fun w' => w'.cell? ⟨b, off + j * 3, none⟩ = some (.int .i64 y.1.yr) ∧ w'.cell? ⟨b, off + j * 3 + 1, none⟩ = some (.int .i64 y.1.cr) ∧ w'.cell? ⟨b, off + j * 3 + 2, none⟩ = some (.slice y.2.a y.1.rg.length y.2.c) ∧ w'.cell? ⟨X, 0, none⟩ = some (.int .i64 x.1.yr) ∧ w'.cell? ⟨X, 1, none⟩ = some (.int .i64 x.1.cr) ∧ w'.cell? ⟨X, 2, none⟩ = some (.slice x.2.a x.1.rg.length x.2.c))
          (first | exact ⟨f0, f1, f2, e0, e1, e2⟩ | go_keep | ((repeat' apply And.intro) <;> go_keep))
          (first
            | (go_at_call 119
               refine (HC.out _).mono ?_
               rintro e w3 ⟨rfl, hb3⟩
               have hbz : Below w2.heap.size w2 w3 := (Below.drew (Below.refl _ _)).trans hb3
               have k0 := (hbz.cell (p := ⟨b, off + j * 3, none⟩) hbl2).trans f0
               have k1 := (hbz.cell (p := ⟨b, off + j * 3 + 1, none⟩) hbl2).trans f1
               have k2 := (hbz.cell (p := ⟨b, off + j * 3 + 2, none⟩) hbl2).trans f2
               have k3 := (hbz.cell (p := ⟨X, 0, none⟩) hs2).trans e0
               have k4 := (hbz.cell (p := ⟨X, 1, none⟩) hs2).trans e1
               have k5 := (hbz.cell (p := ⟨X, 2, none⟩) hs2).trans e2
               have Hb4 : Hid (Below w.heap.size w w3) := Lib.hid (Hb3.out.trans (show Below w.heap.size w2 w3 from (Below.drew (Below.refl w.heap.size w2)).trans (hb3.mono (Nat.le_trans hsw Hb2.out.size))))
               clear hb3 hbz)
            | fail)
        all_goals go_wp2
        all_goals go_roundw
        case rel => exact ⟨i + 1, by omega, by go_num, Hb4.out⟩
        case measure => simp [intOf]; omega
    · have hin' : ¬ (i : Int) < (n : Int) := by omega
      clear hi hin
      go_upto_region 13 with (first
        | (go_at_call 199
           refine (HY.out _ (HA.out.below Hbw.out)).mono ?_
           rintro e wy ⟨b0, N, D, f, rfl, hb0, hN, hmap, hgrp, hby⟩
           have Hmap := Lib.hid hmap
           have Hgrp := Lib.hid hgrp
           have Hby : Hid (Below w.heap.size w wy) := Lib.hid (Hbw.out.trans (hby.mono hsw))
           have hbl := hmap.lt
           clear hmap hgrp hby)
        | (at_range
           refine wpList_range_own _ rfl _ 245 rfl 3 72 lawIntO Tryz.underlying245 VR b0 N D rfl Hmap.out ?_
           intro w0 hrg0 hg0 hs0
           have Hrg0 := Lib.hid hrg0
           have Hg0 := Lib.hid hg0
           have Hs0 := Lib.hid hs0
           clear hrg0 hg0 hs0)
        | fail)
      go_frame
      go_loopw [7, 8, 9] (fun _ _ _ wr => ∃ left cnt, wr.ranges Tryz.prog 3 VR b0 wy.heap.size N D left cnt ∧ w0.grownBy wr (some wy.heap.size)) (fun _ _ _ wr => wr.rangeLeft b0 wy.heap.size)
      case atStart => exact ⟨_, _, Hrg0.out, World.grownBy.refl _ _⟩
      case round =>
        obtain ⟨left, cnt, hrg, hgw⟩ := hrel
        obtain ⟨wp, rfl⟩ : ∃ wp : World, wp = wr := ⟨_, rfl⟩
        have Hgw := Lib.hid hgw
        go_wp2_with (first
          | (at_next; refine wpList_next_ranges _ rfl _ rfl 3 lawIntO VR (Value.int .i64) (fun v : Value => v) (fun key kl h => by obtain ⟨x, rfl, _⟩ := Maps.keyOf_int_inv Tryz.underlying3 h; exact ⟨x, rfl⟩) (fun v y h => ⟨v, rfl⟩) b0 wy.heap.size N D left cnt rfl hrg ?_ ?_)
          | fail)
        · intro _ _
          go_wp2
          go_ret
          exact ⟨rfl, (Hby.out.trans ((show Below wy.heap.size wy w0 from ⟨Hg0.out.os, Hg0.out.tape, Hg0.out.output, Hg0.out.size, fun i hi => Hg0.out.block i hi (by simp)⟩).mono Hby.out.size)).grown Hgw.out (by have := Hs0.out; have := Hby.out.size; omega) (fun g hg => by injection hg with hg; have := Hby.out.size; omega)⟩
        · intro y cV kl dv ps w1 cnt1 hkey hlk hVR hat hrg1 hlt hg1 hs1 hen
          obtain ⟨y', e1, rfl, _⟩ := Maps.keyOf_int_inv Tryz.underlying3 hkey
          injection e1 with _ e1
          subst e1
          have hfy : f y = cV := by
            have h1 := hat (.held (.slice none 0 0))
            rw [Hgrp.out.at' y] at h1
            unfold VR at hVR
            injection hVR with hVR
            injection hVR with h2 _
            rw [← h2] at h1
            injection h1
          have Hgw1 : Hid (w0.grownBy w1 (some wy.heap.size)) := Lib.hid (only_trans hgw hg1)
          have hown0 := Hgrp.out.own y
          have hown : w1.ownsRow (b0 + 1) 172 3 (f y) (ofY l y).length (rcCells (ofY l y)) := own_grown (own_grown hown0 Hg0.out (fun g hg e => by cases e)) Hgw1.out (fun g hg e => by have := own_lt hown0 g hg; injection e with e; omega)
          have hbw1 : Below w.heap.size w w1 := (Hby.out.trans ((show Below wy.heap.size wy w0 from ⟨Hg0.out.os, Hg0.out.tape, Hg0.out.output, Hg0.out.size, fun i hi => Hg0.out.block i hi (by simp)⟩).mono Hby.out.size)).grown Hgw1.out (by have := Hs0.out; have := Hby.out.size; omega) (fun g hg => by injection hg with hg; have := Hby.out.size; omega)
          have hpw := ofY_pair HL.out y
          have hol := ofY_len l y
          have hom : ∀ x ∈ ofY l y, x ∈ l := fun x hx => (List.mem_filter.1 hx).1
          have hfits : ∀ x ∈ ofY l y, SlR w1 x.2.a x.1.rg.length x.2.c x.1.rg := fun x hx => (HA.out.fits x (hom x hx)).below hbw1
          rw [hfy] at hown
          obtain ⟨Ay, cy, rfl, _, _, _⟩ := own_slice hown
          have HSy : Hid (SlRc w1 Ay (ofY l y).length cy (ofY l y)) := Lib.hid (SlRc.ofRow hown hfits)
          have Hpw := Lib.hid hpw
          have Hrg := Lib.hid hrg
          have Hrg1 := Lib.hid hrg1
          have Hlt := Lib.hid hlt
          have Hen := Lib.hid hen
          have hl200 : (ofY l y).length ≤ 200 := by have := Hln.out; omega
          generalize ofY l y = o at *
          obtain ⟨m, hm⟩ : ∃ m, o.length = m := ⟨_, rfl⟩
          have Hm := Lib.hid hm
          rw [hm] at HSy hl200 hen ⊢
          have hym := HSy.out.cap
          clear hkey hlk hVR hat hrg1 hlt hg1 hs1 hfy hown0 hown hbw1 hpw hol hom hfits hm hrg hgw Hen
          go_upto_region 16 with fail
          clear hen
          go_loopw [8, 9, 47] (fun _ _ jv wr => ∃ j : Nat, j ≤ m ∧ jv = .int .i64 (j : Int) ∧ Below w1.heap.size w1 wr) (fun _ _ jv _ => m - (intOf jv).toNat)
          case atStart => exact ⟨0, Nat.zero_le _, rfl, Below.refl _ _⟩
          case round =>
            obtain ⟨j, hj, rfl, hbj⟩ := hrel
            obtain ⟨wq, rfl⟩ : ∃ wq : World, wq = wr := ⟨_, rfl⟩
            have Hbj := Lib.hid hbj
            have hsj := hbj.size
            clear hbj
            by_cases hjm : j < m
            · have hjm' : (j : Int) < (m : Int) := by omega
              have hjl : j < o.length := by rw [Hm.out]; exact hjm
              obtain ⟨bb, off, rfl, hbl', c0, c1, c2, hS⟩ := (HSy.out.below Hbj.out).at j hjl
              have hS0 := HSy.out.fits o[j] (List.getElem_mem hjl)
              have Hno : Hid (∀ z ∈ o.take j, meetsP z.1.rg o[j].1.rg = false) := Lib.hid (fun z hz => by
                obtain ⟨i, hi, rfl⟩ := List.mem_take_iff_getElem.1 hz
                exact List.pairwise_iff_getElem.1 Hpw.out i j (by omega) hjl (by omega))
              obtain ⟨x, hx⟩ : ∃ x, x = o[j] := ⟨_, rfl⟩
              rw [← hx] at c0 c1 c2 hS hS0 Hno
              have HS0 := Lib.hid hS0
              clear hS hS0 hx
              go_upto_region 18 with fail
              obtain ⟨w2, hw2⟩ : ∃ w2 : World, w2 = wq.alloc (.cells #[.int .i64 x.1.yr, .int .i64 x.1.cr, .slice x.2.a x.1.rg.length x.2.c] 172) := ⟨_, rfl⟩
              rw [← hw2]
              obtain ⟨X, hX⟩ : ∃ X, X = wq.heap.size := ⟨_, rfl⟩
              have Hr2 : Hid (w2.heap[X]? = some (.cells #[.int .i64 x.1.yr, .int .i64 x.1.cr, .slice x.2.a x.1.rg.length x.2.c] 172 (0, 0))) := Lib.hid (by rw [hw2, hX]; exact heap_alloc_new wq _)
              have Hbj2 : Hid (Below w1.heap.size w1 w2) := Lib.hid (Hbj.out.trans ((show Below wq.heap.size wq w2 from (by rw [hw2]; exact (by repeat' (first | with_reducible exact Below.refl _ _ | with_reducible refine below_drewN ?_ _ | with_reducible refine Below.drew ?_ | with_reducible refine Below.alloc ?_ ?_ _ | with_reducible refine Below.setCell ?_ ?_ _ | with_reducible refine Below.trans ?_ (Below.mono (by with_reducible assumption) ?_) | (simp; done) | (simp; omega) | omega)))).mono hsj))
              have hs2 : X < w2.heap.size := by rw [hw2, hX]; simp
              have hj0 : (0 : Int) ≤ (j : Int) := by omega
              have hjc : (j : Int) ≤ (cy : Int) := by omega
              have hjm2 : (j : Int) ≤ (m : Int) := by omega
              have HCn := Lib.hid (containsRc_any 200 #[.pointer (some ⟨X, 0, none⟩)] (fun z => meetsP z.1.rg x.1.rg) (some ⟨bb, off, none⟩) j cy (o.take j) w2 ((HSy.out.take j hj).below Hbj2.out) Heg.out (fun W hW z hz =>
                chk1_any z.1 x.1 z.2 x.2 X W ((HSy.out.fits z (List.mem_of_mem_take hz)).below (Hbj2.out.trans (hW.mono Hbj2.out.size))) (HS0.out.below (Hbj2.out.trans (hW.mono Hbj2.out.size))) (cell_of_row _ _ 2 _ _ _ ((hW.block X hs2).trans Hr2.out)) (Nat.lt_of_lt_of_le hs2 hW.size)))
              rw [show (o.take j).any (fun z => meetsP z.1.rg x.1.rg) = false from List.any_eq_false.2 (fun z hz => by rw [Hno.out z hz]; simp)] at HCn
              rw [← hX]
              clear hw2 hX c0 c1 c2
              go_wp2_with (first
                | (go_at_call 116
                   refine HCn.out.mono ?_
                   rintro e w3 ⟨rfl, hb3⟩
                   have Hb3 := Lib.hid (Hbj2.out.trans (hb3.mono Hbj2.out.size))
                   clear hb3)
                | fail)
              go_roundw
              case rel => exact ⟨j + 1, by omega, by go_num, Hb3.out⟩
              case measure => simp [intOf]; omega
            · have hjm' : ¬ (j : Int) < (m : Int) := by omega
              have hbg : wy.heap.size < w1.heap.size := Hrg1.out.lt
              have hbb : b0 < w1.heap.size := Hrg1.out.owns.lt
              have Hrg2 := Lib.hid (Hrg1.out.kept (Go.Proofs.YtfmkmhhghmdakaaGreatDoor.Below.grown_none Hbj.out) (by simp) (by simp))
              go_wp2
              go_roundw
              case rel => exact ⟨_, cnt1, Hrg2.out, only_below Hgw1.out Hbj.out Hgw1.out.size⟩
              case measure => rw [Hrg2.out.left_eq, Hrg.out.left_eq]; exact Hlt.out
end Go.Proofs.YtfmkmhhghmdakaaGreatDoor
namespace Go.Proofs.YtfmkmhhghmdakaaGreatDoor
open Go.RowKit
set_option linter.unusedVariables false
set_option linter.unusedSimpArgs false

set_option maxHeartbeats 16000000 in
set_option maxRecDepth 100000 in
theorem check15_any (A : Option Addr) (n c : Nat) (l : RcL) (w : World) (hA : SlRc w A n c l) (hl : HyOk (rcs l)) :
    Calls Tryz.prog 38 #[.slice A n c] w fun e w' => e = .returned (.int .i64 0) ∧ Below w.heap.size w w' := by
  have hln := hA.len
  have hn60 : n ≤ 200 := by have := hl.len; rw [rcs_len] at this; omega
  have hn60' : ¬ (200 : Int) < (n : Int) := by omega
  have hcap := hA.cap
  have HA := Lib.hid hA
  have HL := Lib.hid hl
  have Hln := Lib.hid hln
  clear hA hl hln
  go_enter Tryz.func38, Tryz.ntmps38
  go_wp2
  go_loopw [3, 4, 14] (fun _ _ iv wr => ∃ i : Nat, i ≤ n ∧ iv = .int .i64 (i : Int) ∧ Below w.heap.size w wr) (fun _ _ iv _ => n - (intOf iv).toNat)
  case atStart => exact ⟨0, Nat.zero_le _, rfl, Below.refl _ _⟩
  case round =>
    obtain ⟨i, hi, rfl, hbw⟩ := hrel
    obtain ⟨wo, rfl⟩ : ∃ wo : World, wo = wr := ⟨_, rfl⟩
    have Hbw := Lib.hid hbw
    have hsw := hbw.size
    clear hbw
    by_cases hin : i < n
    · have hin' : (i : Int) < (n : Int) := by omega
      have hil : i < l.length := by rw [Hln.out]; exact hin
      obtain ⟨b, off, rfl, hbl, c0, c1, c2, hS⟩ := (HA.out.below Hbw.out).at i hil
      have hok := HL.out.ok l[i].1 (List.mem_map_of_mem (List.getElem_mem hil))
      obtain ⟨hyr, hcr, hrg, hne⟩ := hok
      have HV := Lib.hid (fun W (h : SlR W l[i].2.a l[i].1.rg.length l[i].2.c l[i].1.rg) => validR_any _ _ _ l[i].1.rg W h)
      rw [hrg] at HV
      have hup := fun (h0 : 0 < i) => HL.out.step (i - 1) i (by omega) hil
      have Hup := Lib.hid hup
      obtain ⟨x, hx⟩ : ∃ x, x = l[i] := ⟨_, rfl⟩
      rw [← hx] at c0 c1 c2 hS HV hyr hcr hne
      have Hx := Lib.hid hx
      have HS := Lib.hid hS
      clear hS hup hx hrg
      obtain ⟨nx, hnx⟩ : ∃ nx, x.1.rg.length = nx := ⟨_, rfl⟩
      rw [hnx] at c2 HV HS hne
      have n1 : ¬ x.1.yr < 0 := by omega
      have n2 : ¬ (100 : Int) < x.1.yr := by omega
      have n3 : ¬ x.1.cr < 0 := by omega
      have n4 : ¬ (40 : Int) ≤ x.1.cr := by omega
      have n5 : ¬ nx = 0 := by omega
      have n6 : ¬ (nx : Int) = 0 := by omega
      clear hnx
      go_upto_region 6 with fail
      obtain ⟨w1, hw1⟩ : ∃ w1 : World, w1 = wo.alloc (.cells #[.int .i64 x.1.yr, .int .i64 x.1.cr, .slice x.2.a nx x.2.c] 172) := ⟨_, rfl⟩
      rw [← hw1]
      have hr1 : w1.heap[wo.heap.size]? = some (.cells #[.int .i64 x.1.yr, .int .i64 x.1.cr, .slice x.2.a nx x.2.c] 172 (0, 0)) := by rw [hw1]; exact heap_alloc_new wo _
      have Hb1 : Hid (Below wo.heap.size wo w1) := Lib.hid (by rw [hw1]; exact (by repeat' (first | with_reducible exact Below.refl _ _ | with_reducible refine below_drewN ?_ _ | with_reducible refine Below.drew ?_ | with_reducible refine Below.alloc ?_ ?_ _ | with_reducible refine Below.setCell ?_ ?_ _ | with_reducible refine Below.trans ?_ (Below.mono (by with_reducible assumption) ?_) | (simp; done) | (simp; omega) | omega)))
      have hs1 : wo.heap.size < w1.heap.size := by rw [hw1]; simp
      have Hr1 := Lib.hid hr1
      have HS1 := Lib.hid (HS.out.below Hb1.out)
      have d0 := cell_of_row _ _ 0 _ _ _ hr1
      have d1 := cell_of_row _ _ 1 _ _ _ hr1
      have d2 := cell_of_row _ _ 2 _ _ _ hr1
      clear hw1 hr1 c0 c1 c2
      go_upto_region 12 with (first
        | (go_at_call 120
           refine (HV.out _ HS1.out).mono ?_
           rintro e w2 ⟨rfl, hb2⟩
           have hr2 := (hb2.block _ hs1).trans Hr1.out
           have Hb2 := Lib.hid (Hb1.out.trans (hb2.mono (by omega)))
           have e0 := cell_of_row _ _ 0 _ _ _ hr2
           have e1 := cell_of_row _ _ 1 _ _ _ hr2
           have e2 := cell_of_row _ _ 2 _ _ _ hr2
           clear hb2 hr2 d0 d1 d2)
        | fail)
      have Hb3 := Lib.hid (Hbw.out.trans (Hb2.out.mono hsw))
      rcases Nat.eq_zero_or_pos i with h0 | h0
      · subst h0
        go_quiet (fail)
        go_wp2
        go_roundw
        case rel => exact ⟨1, by omega, by go_num, ⟨Hb3.out.os, Hb3.out.tape, Hb3.out.output, Hb3.out.size, Hb3.out.block⟩⟩
        case measure => simp [intOf]; omega
      · have h0' : (0 : Int) < (i : Int) := by omega
        obtain ⟨b', off', hbe, _, f0, f1, _⟩ := (HA.out.below Hb3.out).at (i - 1) (by omega)
        injection hbe with hbe
        injection hbe with hb1 hb2
        subst hb1 hb2
        have hlt := Hup.out h0
        rw [← Hx.out] at hlt
        obtain ⟨y, hy⟩ : ∃ y, y = (l[i - 1]'(by omega)).1.yr := ⟨_, rfl⟩
        obtain ⟨z, hz⟩ : ∃ z, z = (l[i - 1]'(by omega)).1.cr := ⟨_, rfl⟩
        unfold rcLt at hlt
        rw [← hy, ← hz] at hlt
        rw [← hy] at f0
        rw [← hz] at f1
        obtain ⟨j, hj⟩ : ∃ j : Nat, j = i - 1 := ⟨_, rfl⟩
        rw [← hj] at f0 f1
        have hwr : IntKind.i64.wrap ((i : Int) - 1) = (j : Int) := by rw [IntWalk.i64_in _ (by omega)]; omega
        have hj1 : j < n := by omega
        have hj2 : (j : Int) < (n : Int) := by omega
        have hj0 : (0 : Int) ≤ (j : Int) := by omega
        clear hy hz hj
        have hy1 : ¬ x.1.yr < y := by omega
        by_cases hye : x.1.yr = y
        · have hyq : (x.1.yr == y) = true := by simp [hye]
          have hzc : ¬ x.1.cr ≤ z := by omega
          have hHye := Lib.hid hye
          clear hye hlt
          go_quiet (fail)
          go_wp2
          go_roundw
          case rel => exact ⟨i + 1, by omega, by go_num, ⟨Hb3.out.os, Hb3.out.tape, Hb3.out.output, Hb3.out.size, Hb3.out.block⟩⟩
          case measure => simp [intOf]; omega
        · have hyq : (x.1.yr == y) = false := by simp [hye]
          clear hlt
          go_quiet (fail)
          go_wp2
          go_roundw
          case rel => exact ⟨i + 1, by omega, by go_num, ⟨Hb3.out.os, Hb3.out.tape, Hb3.out.output, Hb3.out.size, Hb3.out.block⟩⟩
          case measure => simp [intOf]; omega
    · have hin' : ¬ (i : Int) < (n : Int) := by omega
      go_upto_region 16 with fail
      go_loopw [5, 6, 8, 87] (fun _ _ _ iv wr => ∃ i : Nat, i ≤ n ∧ iv = .int .i64 (i : Int) ∧ Below w.heap.size w wr) (fun _ _ _ iv _ => n - (intOf iv).toNat)
      case atStart => exact ⟨0, Nat.zero_le _, rfl, Hbw.out⟩
      case round =>
        clear hin hin' hi
        obtain ⟨i, hi, rfl, hbw⟩ := hrel
        obtain ⟨wp, rfl⟩ : ∃ wp : World, wp = wr := ⟨_, rfl⟩
        have Hbp := Lib.hid hbw
        have hsp := hbw.size
        clear hbw
        by_cases hin : i < n
        · have hin' : (i : Int) < (n : Int) := by omega
          have hil : i < l.length := by rw [Hln.out]; exact hin
          obtain ⟨b, off, rfl, hbl, c0, c1, c2, hS⟩ := (HA.out.below Hbp.out).at i hil
          obtain ⟨x, hx⟩ : ∃ x, x = l[i] := ⟨_, rfl⟩
          rw [← hx] at c0 c1 c2 hS
          have Hx := Lib.hid hx
          have HS := Lib.hid hS
          clear hS hx
          go_upto_region 18 with fail
          obtain ⟨w1, hw1⟩ : ∃ w1 : World, w1 = wp.alloc (.cells #[.int .i64 x.1.yr, .int .i64 x.1.cr, .slice x.2.a x.1.rg.length x.2.c] 172) := ⟨_, rfl⟩
          rw [← hw1]
          obtain ⟨X, hX⟩ : ∃ X, X = wp.heap.size := ⟨_, rfl⟩
          have Hr1 : Hid (w1.heap[X]? = some (.cells #[.int .i64 x.1.yr, .int .i64 x.1.cr, .slice x.2.a x.1.rg.length x.2.c] 172 (0, 0))) := Lib.hid (by rw [hw1, hX]; exact heap_alloc_new wp _)
          have Hb1 : Hid (Below wp.heap.size wp w1) := Lib.hid (by rw [hw1]; exact (by repeat' (first | with_reducible exact Below.refl _ _ | with_reducible refine below_drewN ?_ _ | with_reducible refine Below.drew ?_ | with_reducible refine Below.alloc ?_ ?_ _ | with_reducible refine Below.setCell ?_ ?_ _ | with_reducible refine Below.trans ?_ (Below.mono (by with_reducible assumption) ?_) | (simp; done) | (simp; omega) | omega)))
          have hs1 : X < w1.heap.size := by rw [hw1, hX]; simp
          have HS1 := Lib.hid (HS.out.below Hb1.out)
          have Hbw1 := Lib.hid (Hbp.out.trans (Hb1.out.mono hsp))
          have hsw1 : w.heap.size ≤ w1.heap.size := Hbw1.out.size
          have hic : (i : Int) ≤ (c : Int) := by omega
          have hin2 : (i : Int) ≤ (n : Int) := by omega
          have hi0 : (0 : Int) ≤ (i : Int) := by omega
          rw [← hX]
          clear hw1 hX c0 c1 c2 HS
          go_upto_region 19 with fail
          go_loopw [8, 96] (fun _ jv wr => ∃ j : Nat, j ≤ i ∧ jv = .int .i64 (j : Int) ∧ Below w1.heap.size w1 wr) (fun _ jv _ => i - (intOf jv).toNat)
          case atStart => exact ⟨0, Nat.zero_le _, rfl, Below.refl _ _⟩
          case round =>
            obtain ⟨j, hj, rfl, hbj⟩ := hrel
            obtain ⟨wq, rfl⟩ : ∃ wq : World, wq = wr := ⟨_, rfl⟩
            have Hbj := Lib.hid hbj
            have hsj := hbj.size
            clear hbj
            by_cases hji : j < i
            · have hji' : (j : Int) < (i : Int) := by omega
              have hjl : j < l.length := by omega
              have hap := HL.out.apart j i hji hil
              obtain ⟨b', off', hbe, _, f0, f1, f2, hSy⟩ := (HA.out.below (Hbw1.out.trans (Hbj.out.mono hsw1))).at j hjl
              injection hbe with hbe
              injection hbe with hb1 hb2
              subst hb1 hb2
              rw [← Hx.out] at hap
              obtain ⟨y, hy⟩ : ∃ y, y = l[j] := ⟨_, rfl⟩
              rw [← hy] at f0 f1 f2 hSy hap
              have HSy := Lib.hid hSy
              have Hap := Lib.hid hap
              clear hSy hap hy
              go_upto_region 21 with fail
              obtain ⟨w2, hw2⟩ : ∃ w2 : World, w2 = wq.alloc (.cells #[.int .i64 y.1.yr, .int .i64 y.1.cr, .slice y.2.a y.1.rg.length y.2.c] 172) := ⟨_, rfl⟩
              rw [← hw2]
              have hr2 : w2.heap[wq.heap.size]? = some (.cells #[.int .i64 y.1.yr, .int .i64 y.1.cr, .slice y.2.a y.1.rg.length y.2.c] 172 (0, 0)) := by rw [hw2]; exact heap_alloc_new wq _
              have Hb2 : Hid (Below wq.heap.size wq w2) := Lib.hid (by rw [hw2]; exact (by repeat' (first | with_reducible exact Below.refl _ _ | with_reducible refine below_drewN ?_ _ | with_reducible refine Below.drew ?_ | with_reducible refine Below.alloc ?_ ?_ _ | with_reducible refine Below.setCell ?_ ?_ _ | with_reducible refine Below.trans ?_ (Below.mono (by with_reducible assumption) ?_) | (simp; done) | (simp; omega) | omega)))
              have Hbj2 := Lib.hid (Hbj.out.trans (Hb2.out.mono hsj))
              have hrX := (Hbj2.out.block X hs1).trans Hr1.out
              have d0 := cell_of_row _ _ 0 _ _ _ hr2
              have d2 := cell_of_row _ _ 2 _ _ _ hr2
              have x0 := cell_of_row _ _ 0 _ _ _ hrX
              have x2 := cell_of_row _ _ 2 _ _ _ hrX
              have HSy2 := Lib.hid (HSy.out.below Hb2.out)
              have HSx2 := Lib.hid (HS1.out.below Hbj2.out)
              clear hw2 hr2 hrX f0 f1 f2
              by_cases hye : y.1.yr = x.1.yr
              · have hyq : (y.1.yr == x.1.yr) = true := by simp [hye]
                have HM := Lib.hid (fun W (h1 : SlR W y.2.a y.1.rg.length y.2.c y.1.rg) (h2 : SlR W x.2.a x.1.rg.length x.2.c x.1.rg) => meetsR_any _ _ _ _ _ _ y.1.rg x.1.rg W h1 h2)
                rw [Hap.out hye] at HM
                have Hye := Lib.hid hye
                clear hye
                go_wp2_with (first
                  | (go_at_call 121
                     refine (HM.out _ HSy2.out HSx2.out).mono ?_
                     rintro e w3 ⟨rfl, hb3⟩
                     have Hb3 := Lib.hid (Hbj2.out.trans (hb3.mono Hbj2.out.size))
                     clear hb3)
                  | fail)
                go_roundw
                case rel => exact ⟨j + 1, by omega, by go_num, Hb3.out⟩
                case measure => simp [intOf]; omega
              · have hyq : (y.1.yr == x.1.yr) = false := by simp [hye]
                go_wp2
                go_roundw
                case rel => exact ⟨j + 1, by omega, by go_num, Hbj2.out⟩
                case measure => simp [intOf]; omega
            · have hji' : ¬ (j : Int) < (i : Int) := by omega
              go_wp2
              go_roundw
              case rel => exact ⟨i + 1, by omega, by go_num, Hbw1.out.trans (Hbj.out.mono hsw1)⟩
              case measure => simp [intOf]; omega
        · have hin' : ¬ (i : Int) < (n : Int) := by omega
          go_wp2
          go_ret
          exact ⟨rfl, Hbp.out⟩
end Go.Proofs.YtfmkmhhghmdakaaGreatDoor
namespace Go.Proofs.YtfmkmhhghmdakaaGreatDoor
open Go.RowKit Go.Shelf
set_option linter.unusedVariables false
set_option linter.unusedSimpArgs false

set_option maxHeartbeats 16000000 in
set_option maxRecDepth 100000 in
theorem add15_any (A : Option Addr) (n cl : Nat) (l : RcL) (y c : Int) (u : LV) (a : List R4) (k b0 : Nat) (w : World) (hA : SlRc w A n cl l) (hO : ∀ x ∈ l, w.ownsRow b0 68 4 (.slice x.2.a x.1.rg.length x.2.c) x.1.rg.length (rCells x.1.rg)) (hl : HyR (rcs l)) (hn : n < 30) (hy : 0 ≤ y ∧ y ≤ 100) (hc : 0 ≤ c ∧ c < 3) (hk : k ≤ 120) (ha : Reg 9 k a) (hu : w.ownsRow b0 68 4 (.slice u.a a.length u.c) a.length (rCells a)) (hb0 : b0 ≤ w.heap.size) :
    Calls Tryz.prog 94 #[.slice A n cl, .int .i64 y, .int .i64 c, .agg #[.slice u.a a.length u.c]] w (Add15Post w b0 l y c a) := by
  obtain ⟨i0, hi, hz0, hz1, hz2⟩ := info_parts Tryz.infoRc
  have HL := Lib.hid hl
  have HA := Lib.hid hA
  have HO := Lib.hid hO
  have HU := Lib.hid hu
  have Ha := Lib.hid ha
  have Hln := Lib.hid hA.len
  have Hend := Lib.hid (addH_ok hl (by rw [rcs_len]; have := hA.len; omega) hy hc hk ha)
  have HC := Lib.hid (fun W (h : SlRc W A n cl l) => check15_any A n cl l W h hl.hy)
  have HV := Lib.hid (fun W (h : SlR W u.a a.length u.c a) => validR_any u.a a.length u.c a W h)
  rw [ha.valid (by omega) hk] at HV
  have hal : a.length ≤ 120 := by have := ha.len; omega
  have y1 : ¬ y < 0 := by omega
  have y2 : ¬ (100 : Int) < y := by omega
  have y3 : decide (y < 0) = false := decide_eq_false y1
  have y4 : decide ((100 : Int) < y) = false := decide_eq_false y2
  have d1 : ¬ c < 0 := by omega
  have d2 : ¬ (40 : Int) ≤ c := by omega
  have d3 : decide (c < 0) = false := decide_eq_false d1
  have d4 : decide ((40 : Int) ≤ c) = false := decide_eq_false d2
  clear hA hl hO hu ha
  go_enter Tryz.func94, Tryz.ntmps94
  go_upto_region 1 with fail
  obtain ⟨w1, hw1⟩ : ∃ w1 : World, w1 = w.alloc (.cells #[.slice u.a a.length u.c] 33) := ⟨_, rfl⟩
  rw [← hw1]
  have Hr1 : Hid (w1.heap[w.heap.size]? = some (.cells #[.slice u.a a.length u.c] 33 (0, 0))) := Lib.hid (by rw [hw1]; exact heap_alloc_new w _)
  have Hb1 : Hid (Below w.heap.size w w1) := Lib.hid (by rw [hw1]; exact (by repeat' (first | with_reducible exact Below.refl _ _ | with_reducible refine below_drewN ?_ _ | with_reducible refine Below.drew ?_ | with_reducible refine Below.alloc ?_ ?_ _ | with_reducible refine Below.setCell ?_ ?_ _ | with_reducible refine Below.trans ?_ (Below.mono (by with_reducible assumption) ?_) | (simp; done) | (simp; omega) | omega)))
  have hs1 : w1.heap.size = w.heap.size + 1 := by rw [hw1]; simp
  have HA1 := Lib.hid (HA.out.below Hb1.out)
  clear hw1
  go_upto_region 8 with (first
    | (go_at_call 38; refine (HC.out _ HA1.out).mono ?_; rintro e w2 ⟨rfl, hb2⟩; have Hb2 := Lib.hid hb2; have hs2 := hb2.size; have hr2 := (hb2.block w.heap.size (by omega)).trans Hr1.out; have Hr2 := Lib.hid hr2; have HU2 := Lib.hid (ownsRow_below HU.out (Hb1.out.trans (hb2.mono (by omega)))); have e0 := cell_of_row _ _ 0 _ _ _ hr2; clear hb2 hr2)
    | fail)
  go_upto_region 10 with (first
    | (go_at_call 120; refine (HV.out _ (SlR.ofR HU2.out)).mono ?_; rintro e w3 ⟨rfl, hb3⟩; have Hb3 := Lib.hid (Hb1.out.trans ((Hb2.out.trans (hb3.mono hs2)).mono (by omega))); have hr3 := (hb3.block w.heap.size (by omega)).trans Hr2.out; have Hr3 := Lib.hid hr3; have hs3 := hb3.size; have HU3 := Lib.hid (ownsRow_below HU2.out hb3); have e3 := cell_of_row _ _ 0 _ _ _ hr3; clear hb3 hr3 e0)
    | fail)
  have HA3 := Lib.hid (HA.out.below Hb3.out)
  have HO3 : Hid (∀ x ∈ l, w3.ownsRow b0 68 4 (.slice x.2.a x.1.rg.length x.2.c) x.1.rg.length (rCells x.1.rg)) := Lib.hid (fun x hx => ownsRow_below (HO.out x hx) Hb3.out)
  have hwx : w.heap.size < w3.heap.size := by omega
  clear HU HU2 HA HA1 HO Hr1 Hr2 HC HV y1 y2 y3 y4 d1 d2 d3 d4
  go_wp2
  clear e3
  go_loopw [11, 12, 14, 45] (fun mv ov _ iv wr => ∃ (i : Nat) (o : RcL) (q : LV) (M : List R4), i ≤ n ∧ iv = .int .i64 (i : Int) ∧ mv = .slice q.a M.length q.c ∧ M = ((rcs l).take i).foldl (mineA y c) a ∧ wr.ownsRow b0 68 4 mv M.length (rCells M) ∧ RcB wr w3.heap.size b0 ov o ∧ rcs o = ((rcs l).take i).flatMap (oneA y c a) ∧ (∀ g, ov.ownBlock = some g → mv.ownBlock ≠ some g) ∧ Below w3.heap.size w3 wr) (fun _ _ _ iv _ => n - (intOf iv).toNat)
  case atStart => exact ⟨0, [], u, a, Nat.zero_le _, rfl, rfl, by simp, HU3.out, RcB.nil _ _ _, rfl, fun g h => by simp [Value.ownBlock] at h, Below.refl _ _⟩
  case round =>
    obtain ⟨i, o, q, M, hi', rfl, rfl, hM, hmo, hrc, hro, hap, hbw⟩ := hrel
    obtain ⟨wo, rfl⟩ : ∃ wo : World, wo = wr := ⟨_, rfl⟩
    have HM := Lib.hid hM
    have HMo := Lib.hid hmo
    have Hrc := Lib.hid hrc
    have Hro := Lib.hid hro
    have Hap := Lib.hid hap
    have Hbw := Lib.hid hbw
    have hso := hbw.size
    have hMr := mine_reg (y := y) (c := c) (l := (rcs l).take i) hk (fun x hx => HL.out.reg x (List.mem_of_mem_take hx)) Ha.out
    rw [← hM] at hMr
    have HMr := Lib.hid hMr.1
    have hMl : M.length ≤ 120 := by obtain ⟨k', h1, h2⟩ := HMr.out; have := h2.len; omega
    have hol : o.length ≤ i := by
      have h1 := keepA_len y c a ((rcs l).take i)
      rw [← hro, rcs_len, List.length_take] at h1
      omega
    clear hM hmo hrc hro hap hbw hMr
    by_cases hin : i < n
    · have hin' : (i : Int) < (n : Int) := by omega
      have hil : i < l.length := by rw [Hln.out]; exact hin
      obtain ⟨b, off, rfl, hbl, f0, f1, f2, hS⟩ := (HA3.out.below Hbw.out).at i hil
      have HSo := Lib.hid (ownsRow_below (HO3.out l[i] (List.getElem_mem hil)) Hbw.out)
      have HXr := Lib.hid (HL.out.reg l[i].1 (List.mem_map_of_mem (List.getElem_mem hil)))
      have HXo := Lib.hid (HL.out.hy.ok l[i].1 (List.mem_map_of_mem (List.getElem_mem hil)))
      have Hts : Hid ((rcs l).take (i + 1) = (rcs l).take i ++ [l[i].1]) := Lib.hid (by
        have h := List.take_succ_eq_append_getElem (l := rcs l) (i := i) (by rw [rcs_len]; exact hil)
        rw [h, rcs_get l i hil])
      have hSb : ∀ g, (Value.slice l[i].2.a l[i].1.rg.length l[i].2.c).ownBlock = some g → g < w3.heap.size := own_ltY (HO3.out l[i] (List.getElem_mem hil))
      have HSb := Lib.hid hSb
      clear hS hSb
      obtain ⟨x, hx⟩ : ∃ x, x = l[i] := ⟨_, rfl⟩
      rw [← hx] at f0 f1 f2 HSo HXr HXo Hts HSb
      clear hx
      have hxl : x.1.rg.length ≤ 120 := (valid_parts HXo.out.rg).1
      obtain ⟨Y, hY⟩ : ∃ Y, x.1.yr = Y := ⟨_, rfl⟩
      obtain ⟨C, hC⟩ : ∃ C, x.1.cr = C := ⟨_, rfl⟩
      rw [hY] at f0
      rw [hC] at f1
      have HY := Lib.hid hY
      have HCr := Lib.hid hC
      clear hY hC
      have HYb : Hid (∃ X, X = wo.heap.size) := Lib.hid ⟨_, rfl⟩
      go_upto_region 15 with fail
      obtain ⟨wa, hwa⟩ : ∃ wa : World, wa = wo.alloc (.cells #[.int .i64 Y, .int .i64 C, .slice x.2.a x.1.rg.length x.2.c] 172) := ⟨_, rfl⟩
      rw [← hwa]
      obtain ⟨X, hX⟩ : ∃ X, X = wo.heap.size := ⟨_, rfl⟩
      have Hra : Hid (wa.heap[X]? = some (.cells #[.int .i64 Y, .int .i64 C, .slice x.2.a x.1.rg.length x.2.c] 172 (0, 0))) := Lib.hid (by rw [hwa, hX]; exact heap_alloc_new wo _)
      have Hba : Hid (Below wo.heap.size wo wa) := Lib.hid (by rw [hwa]; exact (by repeat' (first | with_reducible exact Below.refl _ _ | with_reducible refine below_drewN ?_ _ | with_reducible refine Below.drew ?_ | with_reducible refine Below.alloc ?_ ?_ _ | with_reducible refine Below.setCell ?_ ?_ _ | with_reducible refine Below.trans ?_ (Below.mono (by with_reducible assumption) ?_) | (simp; done) | (simp; omega) | omega)))
      have hsa : X < wa.heap.size := by rw [hwa, hX]; simp
      have hsa2 : wo.heap.size ≤ wa.heap.size := by omega
      rw [← hX]
      have hXo : wo.heap.size ≤ X := by omega
      have hXo2 : X ≤ wo.heap.size := by omega
      have Hrca := Lib.hid (Hrc.out.below Hba.out)
      have HMa := Lib.hid (ownsRow_below HMo.out Hba.out)
      have HSa := Lib.hid (ownsRow_below HSo.out Hba.out)
      have Hb3a : Hid (Below w3.heap.size w3 wa) := Lib.hid (Hbw.out.trans (Hba.out.mono hso))
      have HMlt := Lib.hid (own_ltY HMo.out)
      have Holt := Lib.hid (own_ltY Hrc.out.o)
      have a0 := cell_of_row _ _ 0 _ _ _ Hra.out
      have a1 := cell_of_row _ _ 1 _ _ _ Hra.out
      have a2 := cell_of_row _ _ 2 _ _ _ Hra.out
      clear hwa hX f0 f1 f2 HYb
      by_cases hyr : Y = y
      · have hyd : (Y == y) = true := by simp [hyr]
        have hyi : decide (Y = y) = true := decide_eq_true hyr
        have Hyr := Lib.hid hyr
        clear hyr
        by_cases hcr : C = c
        · have hcd : (C == c) = true := by simp [hcr]
          have hci : decide (C = c) = true := decide_eq_true hcr
          have Hcr := Lib.hid hcr
          clear hcr
          have Hmn : Hid (((rcs l).take (i + 1)).foldl (mineA y c) a = chooseP orB M x.1.rg) := Lib.hid (by
            rw [Hts.out, List.foldl_append, ← HM.out]
            exact if_pos ⟨by rw [HY.out]; exact Hyr.out, by rw [HCr.out]; exact Hcr.out⟩)
          have Hon : Hid (((rcs l).take (i + 1)).flatMap (oneA y c a) = rcs o) := Lib.hid (by
            rw [Hts.out, List.flatMap_append, ← Hro.out]
            have e : oneA y c a x.1 = [] := if_pos ⟨by rw [HY.out]; exact Hyr.out, by rw [HCr.out]; exact Hcr.out⟩
            simp only [List.flatMap_cons, List.flatMap_nil, e, List.append_nil])
          have Hcb : Hid (combP (howR 1) M x.1.rg = chooseP orB M x.1.rg) := Lib.hid (by
            obtain ⟨k', _, h2⟩ := HMr.out
            rw [howR_one]; exact (choose_comb orB rfl _ _ h2.ins.pos HXr.out.ins.pos).symm)
          go_upto_region 21 with (first
            | (go_at_call 46
               refine (combineR_any q.a x.2.a M.length q.c x.1.rg.length x.2.c M x.1.rg 1 _ (SlR.ofR HMa.out) (SlR.ofR HSa.out) (by omega)).mono ?_
               rintro e wc ⟨v, rfl, hown, hbc⟩
               rw [Hcb.out] at hown
               have Hown := Lib.hid hown
               generalize chooseP orB M x.1.rg = Q at *
               obtain ⟨A1, c1, rfl, _, _, _⟩ := own_slice Hown.out
               have Hbc := Lib.hid hbc
               have hsc := hbc.size
               clear hown hbc)
            | fail)
          clear a0 a1 a2
          go_wp2
          go_roundw
          case rel =>
            refine ⟨i + 1, o, ⟨A1, c1⟩, Q, by omega, by go_num, rfl, Hmn.out.symm, own_rebase Hown.out (by omega), Hrca.out.below Hbc.out, Hon.out.symm, fun g hg e => ?_, Hb3a.out.trans (Hbc.out.mono (by omega))⟩
            have h1 := Holt.out g hg
            have h2 := own_base Hown.out g e
            omega
          case measure => simp [intOf]; omega
        · have hcd : (C == c) = false := by simp [hcr]
          have hci : decide (C = c) = false := decide_eq_false hcr
          have Hcr := Lib.hid hcr
          clear hcr
          have Hmn : Hid (((rcs l).take (i + 1)).foldl (mineA y c) a = M) := Lib.hid (by
            rw [Hts.out, List.foldl_append, ← HM.out]
            exact if_neg (fun h => Hcr.out (by rw [← HCr.out]; exact h.2)))
          have Hon : Hid (((rcs l).take (i + 1)).flatMap (oneA y c a) = rcs o ++ (if (chooseP notB x.1.rg a).length = 0 then [] else [⟨Y, C, chooseP notB x.1.rg a⟩])) := Lib.hid (by
            rw [Hts.out, List.flatMap_append, ← Hro.out]
            have e : oneA y c a x.1 = if (chooseP notB x.1.rg a).length = 0 then [] else [⟨x.1.yr, x.1.cr, chooseP notB x.1.rg a⟩] := by
              unfold oneA
              rw [if_neg (fun h => Hcr.out (by rw [← HCr.out]; exact h.2)), if_pos (by rw [HY.out]; exact Hyr.out)]
            rw [HY.out, HCr.out] at e
            simp only [List.flatMap_cons, List.flatMap_nil, e, List.append_nil])
          have Hcb : Hid (combP (howR 3) x.1.rg a = chooseP notB x.1.rg a) := Lib.hid (by
            rw [howR_three]; exact (choose_comb notB rfl _ _ HXr.out.ins.pos Ha.out.ins.pos).symm)
          have HU3a := Lib.hid (ownsRow_below HU3.out Hb3a.out)
          have r0 := cell_of_row _ _ 0 _ _ _ ((Hb3a.out.block w.heap.size hwx).trans Hr3.out)
          go_upto_region 19 with (first
            | (go_at_call 46
               refine (combineR_any x.2.a u.a x.1.rg.length x.2.c a.length u.c x.1.rg a 3 _ (SlR.ofR HSa.out) (SlR.ofR HU3a.out) (by omega)).mono ?_
               rintro e wc ⟨v, rfl, hown, hbc⟩
               rw [Hcb.out] at hown
               have Hown := Lib.hid hown
               have hrc4 := (hbc.block X hsa).trans Hra.out
               have Hrc4 := Lib.hid hrc4
               have x2 := cell_of_row _ _ 2 _ _ _ hrc4
               have g2 := frozen_of_row _ _ 2 _ _ hrc4
               have Hbc := Lib.hid hbc
               have hsc := hbc.size
               generalize chooseP notB x.1.rg a = Q at *
               obtain ⟨A1, c1, rfl, _, _, _⟩ := own_slice Hown.out
               clear hown hbc hrc4 a0 a1 a2 r0)
            | fail)
          obtain ⟨w5, hw5⟩ : ∃ w5 : World, w5 = wc.setCell ⟨X, 2, none⟩ (.slice A1 Q.length c1) := ⟨_, rfl⟩
          rw [← hw5]
          have Hr5 : Hid (w5.heap[X]? = some (.cells #[.int .i64 Y, .int .i64 C, .slice A1 Q.length c1] 172 (0, 0))) := Lib.hid (by
            rw [hw5]
            have h := heap_setCell_same wc X 2 _ _ (.slice A1 Q.length c1) Hrc4.out
            simpa using h)
          have Hg5 : Hid (wc.grownBy w5 (some X)) := Lib.hid (by rw [hw5]; exact only_setCell (g := X) (World.grownBy.refl _ _) (.inl rfl) _)
          have hs5 : wc.heap.size ≤ w5.heap.size := by rw [hw5]; simp
          have Hb5 : Hid (Below w3.heap.size w3 w5) := Lib.hid (by rw [hw5]; exact (Hb3a.out.trans (Hbc.out.mono (by omega))).setCell (by show w3.heap.size ≤ X; omega) _)
          have HZ5 : Hid (w5.ownsRow b0 68 4 (.slice A1 Q.length c1) Q.length (rCells Q)) := Lib.hid (own_grownY (own_rebase Hown.out (by omega)) Hg5.out (fun g hg e => by injection e with e; have := own_base Hown.out g hg; omega))
          have Hrc5 : Hid (RcB w5 w3.heap.size b0 u12 o) := Lib.hid ((Hrca.out.below Hbc.out).apart Hg5.out (fun g hg e => by injection e with e; have := Holt.out g hg; omega) (fun z hz g hg e => by injection e with e; have := own_ltY (Hrc.out.fs z hz) g hg; omega))
          have HM5 : Hid (w5.ownsRow b0 68 4 (.slice q.a M.length q.c) M.length (rCells M)) := Lib.hid (own_grownY (ownsRow_below HMa.out Hbc.out) Hg5.out (fun g hg e => by injection e with e; have := HMlt.out g hg; omega))
          have Hza : Hid (∀ g, u12.ownBlock = some g → (Value.slice A1 Q.length c1).ownBlock ≠ some g) := Lib.hid (fun g hg e => by have := Holt.out g hg; have := own_base Hown.out g e; omega)
          have hX5 : X < w5.heap.size := by omega
          clear hw5 x2 g2
          have a0 := cell_of_row _ _ 0 _ _ _ Hr5.out
          have a1 := cell_of_row _ _ 1 _ _ _ Hr5.out
          have a2 := cell_of_row _ _ 2 _ _ _ Hr5.out
          by_cases hz : Q.length = 0
          · have hz' : ¬ (0 : Int) < (Q.length : Int) := by omega
            have hzd : decide ((0 : Int) < (Q.length : Int)) = false := decide_eq_false hz'
            go_wp2
            go_roundw
            case rel =>
              exact ⟨i + 1, o, q, M, by omega, by go_num, rfl, Hmn.out.symm, HM5.out, Hrc5.out, by rw [Hon.out, if_pos hz, List.append_nil], Hap.out, Hb5.out⟩
            case measure => simp [intOf]; omega
          · have hz' : (0 : Int) < (Q.length : Int) := by omega
            have hzd : decide ((0 : Int) < (Q.length : Int)) = true := decide_eq_true hz'
            go_wp2_with (first
              | (at_builtin
                 refine wpList_append_any _ rfl (.tmp 81) (.tmp 83) _ rfl w3.heap.size 172 i0 _ 3 40 Tryz.underlying72 hi hz0 hz1 hz2 rfl (by omega) u12 o.length (rcCells o) rfl
                   (ownsRow_below Hrc5.out.o (by repeat' (first | with_reducible exact Below.refl _ _ | with_reducible refine below_drewN ?_ _ | with_reducible refine Below.drew ?_ | with_reducible refine Below.alloc ?_ ?_ _ | with_reducible refine Below.setCell ?_ ?_ _ | with_reducible refine Below.trans ?_ (Below.mono (by with_reducible assumption) ?_) | (simp; done) | (simp; omega) | omega))) _ _ 1 1 [.int .i64 Y, .int .i64 C, .slice A1 Q.length c1] rfl ⟨rfl, fun _ => ⟨_, rfl, Nat.lt_succ_self _, fun j u hu => (by exact news_any _ _ _ j u hu)⟩⟩ (by simp [Value.oneCell']) (by simp only [maxLen]; omega) (by omega) (by simp; omega) ?_
                 intro v7 w7 hown7 hg7 hat7
                 have hB7 : Below w5.heap.size w5 (w5.alloc (.cells #[.int .i64 Y, .int .i64 C, .slice A1 Q.length c1] 172)) := (Below.refl _ _).alloc (Nat.le_refl _) _
                 have Hown7 := Lib.hid (Hrc5.out.push (⟨Y, C, Q⟩, ⟨A1, c1⟩) HZ5.out Hza.out hB7 hg7 hown7 hat7)
                 have Hb7 : Hid (Below w3.heap.size w3 w7) := Lib.hid ((Hb5.out.alloc (by omega) (.cells #[.int .i64 Y, .int .i64 C, .slice A1 Q.length c1] 172)).grown hg7 (by simp; omega) (own_base Hrc5.out.o))
                 have HM7 : Hid (w7.ownsRow b0 68 4 (.slice q.a M.length q.c) M.length (rCells M)) := Lib.hid (own_grownY (ownsRow_below HM5.out hB7) hg7 (fun g hg e => Hap.out g e hg))
                 have Hap7 : Hid (∀ g, v7.ownBlock = some g → (Value.slice q.a M.length q.c).ownBlock ≠ some g) := Lib.hid (fun g hg e => by
                   rcases hat7 with h | h
                   · exact Hap.out g (by rw [← h]; exact hg) e
                   · rw [h] at hg; injection hg with hg; have := HMlt.out g e; simp at hg; omega)
                 clear hown7 hg7 hat7 hB7)
              | fail)
            go_roundw
            case rel =>
              exact ⟨i + 1, o ++ [(⟨Y, C, Q⟩, ⟨A1, c1⟩)], q, M, by omega, by go_num, rfl, Hmn.out.symm, HM7.out, Hown7.out, by rw [Hon.out, if_neg hz]; simp [rcs], Hap7.out, Hb7.out⟩
            case measure => simp [intOf]; omega
      · have hyd : (Y == y) = false := by simp [hyr]
        have hyi : decide (Y = y) = false := decide_eq_false hyr
        have Hyr := Lib.hid hyr
        clear hyr
        have Hmn : Hid (((rcs l).take (i + 1)).foldl (mineA y c) a = M) := Lib.hid (by
          rw [Hts.out, List.foldl_append, ← HM.out]
          exact if_neg (fun h => Hyr.out (by rw [← HY.out]; exact h.1)))
        obtain ⟨Q, hQ⟩ : ∃ Q, Q = x.1.rg := ⟨_, rfl⟩
        have Hon : Hid (((rcs l).take (i + 1)).flatMap (oneA y c a) = rcs o ++ (if Q.length = 0 then [] else [⟨Y, C, Q⟩])) := Lib.hid (by
          rw [Hts.out, List.flatMap_append, ← Hro.out]
          have e : oneA y c a x.1 = if Q.length = 0 then [] else [⟨Y, C, Q⟩] := by
            unfold oneA
            rw [if_neg (fun h => Hyr.out (by rw [← HY.out]; exact h.1)), if_neg (by rw [HY.out]; exact Hyr.out), hQ, ← HY.out, ← HCr.out]
          simp only [List.flatMap_cons, List.flatMap_nil, e, List.append_nil])
        rw [← hQ] at Hra a2 HSa HSb
        obtain ⟨⟨A1, c1⟩, hu2⟩ : ∃ v : LV, v = x.2 := ⟨_, rfl⟩
        rw [← hu2] at Hra a2 HSa HSb
        dsimp only at Hra a2 HSa HSb
        have hQl : Q.length ≤ 120 := by rw [hQ]; exact hxl
        clear hQ hu2 HSo HXr HXo
        have Hr5 := Hra
        have Hb5 := Hb3a
        have HZ5 := HSa
        have Hrc5 := Hrca
        have HM5 := HMa
        have Hza : Hid (∀ g, u12.ownBlock = some g → (Value.slice A1 Q.length c1).ownBlock ≠ some g) := Lib.hid (fun g hg e => by have := own_base Hrc.out.o g hg; have := HSb.out g e; omega)
        obtain ⟨w5, rfl⟩ : ∃ w5 : World, w5 = wa := ⟨_, rfl⟩
        have hX5 : X < w5.heap.size := hsa
        go_upto_region 19 with fail
        clear a0 a1 a2
        have a0 := cell_of_row _ _ 0 _ _ _ Hr5.out
        have a1 := cell_of_row _ _ 1 _ _ _ Hr5.out
        have a2 := cell_of_row _ _ 2 _ _ _ Hr5.out
        by_cases hz : Q.length = 0
        · have hz' : ¬ (0 : Int) < (Q.length : Int) := by omega
          have hzd : decide ((0 : Int) < (Q.length : Int)) = false := decide_eq_false hz'
          go_wp2
          go_roundw
          case rel =>
            exact ⟨i + 1, o, q, M, by omega, by go_num, rfl, Hmn.out.symm, HM5.out, Hrc5.out, by rw [Hon.out, if_pos hz, List.append_nil], Hap.out, Hb5.out⟩
          case measure => simp [intOf]; omega
        · have hz' : (0 : Int) < (Q.length : Int) := by omega
          have hzd : decide ((0 : Int) < (Q.length : Int)) = true := decide_eq_true hz'
          go_wp2_with (first
            | (at_builtin
               refine wpList_append_any _ rfl (.tmp 81) (.tmp 83) _ rfl w3.heap.size 172 i0 _ 3 40 Tryz.underlying72 hi hz0 hz1 hz2 rfl (by omega) u12 o.length (rcCells o) rfl
                 (ownsRow_below Hrc5.out.o (by repeat' (first | with_reducible exact Below.refl _ _ | with_reducible refine below_drewN ?_ _ | with_reducible refine Below.drew ?_ | with_reducible refine Below.alloc ?_ ?_ _ | with_reducible refine Below.setCell ?_ ?_ _ | with_reducible refine Below.trans ?_ (Below.mono (by with_reducible assumption) ?_) | (simp; done) | (simp; omega) | omega))) _ _ 1 1 [.int .i64 Y, .int .i64 C, .slice A1 Q.length c1] rfl ⟨rfl, fun _ => ⟨_, rfl, Nat.lt_succ_self _, fun j u hu => (by exact news_any _ _ _ j u hu)⟩⟩ (by simp [Value.oneCell']) (by simp only [maxLen]; omega) (by omega) (by simp; omega) ?_
               intro v7 w7 hown7 hg7 hat7
               have hB7 : Below w5.heap.size w5 (w5.alloc (.cells #[.int .i64 Y, .int .i64 C, .slice A1 Q.length c1] 172)) := (Below.refl _ _).alloc (Nat.le_refl _) _
               have Hown7 := Lib.hid (Hrc5.out.push (⟨Y, C, Q⟩, ⟨A1, c1⟩) HZ5.out Hza.out hB7 hg7 hown7 hat7)
               have Hb7 : Hid (Below w3.heap.size w3 w7) := Lib.hid ((Hb5.out.alloc (by omega) (.cells #[.int .i64 Y, .int .i64 C, .slice A1 Q.length c1] 172)).grown hg7 (by simp; omega) (own_base Hrc5.out.o))
               have HM7 : Hid (w7.ownsRow b0 68 4 (.slice q.a M.length q.c) M.length (rCells M)) := Lib.hid (own_grownY (ownsRow_below HM5.out hB7) hg7 (fun g hg e => Hap.out g e hg))
               have Hap7 : Hid (∀ g, v7.ownBlock = some g → (Value.slice q.a M.length q.c).ownBlock ≠ some g) := Lib.hid (fun g hg e => by
                 rcases hat7 with h | h
                 · exact Hap.out g (by rw [← h]; exact hg) e
                 · rw [h] at hg; injection hg with hg; have := HMlt.out g e; simp at hg; omega)
               clear hown7 hg7 hat7 hB7)
            | fail)
          go_roundw
          case rel =>
            exact ⟨i + 1, o ++ [(⟨Y, C, Q⟩, ⟨A1, c1⟩)], q, M, by omega, by go_num, rfl, Hmn.out.symm, HM7.out, Hown7.out, by rw [Hon.out, if_neg hz]; simp [rcs], Hap7.out, Hb7.out⟩
          case measure => simp [intOf]; omega
    · have hin' : ¬ (i : Int) < (n : Int) := by omega
      obtain rfl : i = n := by omega
      have Hmn : Hid ((rcs l).foldl (mineA y c) a = M) := Lib.hid (by rw [HM.out, List.take_of_length_le (by rw [rcs_len, Hln.out]; omega)])
      have Hon : Hid ((rcs l).flatMap (oneA y c a) = rcs o) := Lib.hid (by rw [Hro.out, List.take_of_length_le (by rw [rcs_len, Hln.out]; omega)])
      go_upto_if 88 with fail
      go_cut [12, 15] from 18 (fun ov _ wr => ∃ m : RcL, rcs m = addH (rcs l) y c a ∧ wr.ownsRow w.heap.size 172 3 ov m.length (rcCells m) ∧ (∀ x ∈ m, wr.ownsRow b0 68 4 (.slice x.2.a x.1.rg.length x.2.c) x.1.rg.length (rCells x.1.rg)) ∧ Below w.heap.size w wr)
      case first =>
        by_cases hm0 : M.length = 0
        · have hm0' : ¬ (0 : Int) < (M.length : Int) := by omega
          have hmd : decide ((0 : Int) < (M.length : Int)) = false := decide_eq_false hm0'
          have Hm0 := Lib.hid hm0
          clear hm0
          go_wp2
          go_meet
          case rel =>
            refine ⟨o, ?_, own_rebase Hrc.out.o (by omega), Hrc.out.fs, Hb3.out.trans (Hbw.out.mono (by omega))⟩
            unfold addH
            dsimp only
            rw [Hmn.out, Hon.out, if_pos Hm0.out]
        · have hm0' : (0 : Int) < (M.length : Int) := by omega
          have hmd : decide ((0 : Int) < (M.length : Int)) = true := decide_eq_true hm0'
          have HAdd : Hid (addH (rcs l) y c a = (rcs o).takeWhile (ltKey y c) ++ [⟨y, c, M⟩] ++ (rcs o).dropWhile (ltKey y c)) := Lib.hid (by
            unfold addH
            dsimp only
            rw [Hmn.out, Hon.out, if_neg hm0])
          go_upto_block 3 with fail
          go_cut [15] from 18 (fun jv wr => ∃ j : Nat, jv = .int .i64 (j : Int) ∧ j ≤ o.length ∧ addH (rcs l) y c a = (rcs o).take j ++ [⟨y, c, M⟩] ++ (rcs o).drop j ∧ Below wo.heap.size wo wr)
          case first =>
            obtain ⟨oA, oc, rfl, -, -, -⟩ := own_slice Hrc.out.o
            go_wp2_with fail
            go_loopw [15] (fun jv wr => ∃ j : Nat, jv = .int .i64 (j : Int) ∧ j ≤ o.length ∧ (∀ t (ht : t < o.length), t < j → ltKey y c o[t].1 = true) ∧ Below wo.heap.size wo wr) (fun jv _ => o.length - (intOf jv).toNat)
            case atStart => exact ⟨0, rfl, Nat.zero_le _, fun t ht h => by omega, Below.refl _ _⟩
            case round =>
              obtain ⟨j, rfl, hj, hlt, hbp⟩ := hrel
              obtain ⟨wp, rfl⟩ : ∃ wp : World, wp = wr := ⟨_, rfl⟩
              have Hlt := Lib.hid hlt
              have Hbp := Lib.hid hbp
              clear hlt hbp
              have HExit : Hid ((∀ h : j < o.length, ltKey y c o[j].1 = false) → addH (rcs l) y c a = (rcs o).take j ++ [⟨y, c, M⟩] ++ (rcs o).drop j) := Lib.hid (fun h => by
                have h9 := place_eq (ltKey y c) (rcs o) j (by rw [rcs_len]; exact hj) (fun t ht htj => by rw [rcs_get o t (by rw [rcs_len] at ht; exact ht)]; exact Hlt.out t (by rw [rcs_len] at ht; exact ht) htj) (fun ht => by rw [rcs_get o j (by rw [rcs_len] at ht; exact ht)]; exact h (by rw [rcs_len] at ht; exact ht))
                rw [HAdd.out, h9.1, h9.2])
              by_cases hjo : j < o.length
              · have hjo' : (j : Int) < (o.length : Int) := by omega
                have hjd : decide ((j : Int) < (o.length : Int)) = true := decide_eq_true hjo'
                obtain ⟨b2, off2, rfl, hb2l, g0, g1, _, _⟩ := ((Hrc.out.below Hbp.out).sl).at j hjo
                have hkey : ltKey y c o[j].1 = (decide (o[j].1.yr < y) || (decide (o[j].1.yr = y) && decide (o[j].1.cr < c))) := rfl
                have HKey := Lib.hid hkey
                obtain ⟨Y, hY⟩ : ∃ Y, o[j].1.yr = Y := ⟨_, rfl⟩
                obtain ⟨C, hC⟩ : ∃ C, o[j].1.cr = C := ⟨_, rfl⟩
                rw [hY, hC] at HKey
                rw [hY] at g0
                rw [hC] at g1
                clear hkey hY hC
                by_cases h1 : Y < y
                · have h1d : decide (Y < y) = true := decide_eq_true h1
                  have h1k : ltKey y c o[j].1 = true := by rw [HKey.out, h1d]; rfl
                  have H1k := Lib.hid h1k
                  clear h1k
                  go_upto_if 119 with fail
                  go_wp2
                  go_roundw
                  case rel =>
                    refine ⟨j + 1, by go_num, by omega, fun t ht htj => ?_, ⟨Hbp.out.os, Hbp.out.tape, Hbp.out.output, Hbp.out.size, Hbp.out.block⟩⟩
                    rcases Nat.lt_or_ge t j with h | h
                    · exact Hlt.out t ht h
                    · obtain rfl : t = j := by omega
                      exact H1k.out
                  case measure => simp [intOf]; omega
                · have h1d : decide (Y < y) = false := decide_eq_false h1
                  by_cases h2 : Y = y
                  · have h2d : (Y == y) = true := by simp [h2]
                    have H2 := Lib.hid h2
                    clear h2
                    by_cases h3 : C < c
                    · have h3d : decide (C < c) = true := decide_eq_true h3
                      have h1k : ltKey y c o[j].1 = true := by rw [HKey.out, h1d, h3d, decide_eq_true H2.out]; rfl
                      have H1k := Lib.hid h1k
                      clear h1k
                      go_upto_if 119 with fail
                      go_wp2
                      go_roundw
                      case rel =>
                        refine ⟨j + 1, by go_num, by omega, fun t ht htj => ?_, ⟨Hbp.out.os, Hbp.out.tape, Hbp.out.output, Hbp.out.size, Hbp.out.block⟩⟩
                        rcases Nat.lt_or_ge t j with h | h
                        · exact Hlt.out t ht h
                        · obtain rfl : t = j := by omega
                          exact H1k.out
                      case measure => simp [intOf]; omega
                    · have h3d : decide (C < c) = false := decide_eq_false h3
                      have h1k : ltKey y c o[j].1 = false := by rw [HKey.out, h1d, h3d, decide_eq_true H2.out]; rfl
                      have H1k := Lib.hid h1k
                      clear h1k
                      go_upto_if 119 with fail
                      go_wp2
                      go_meet
                      case rel => exact ⟨j, rfl, hj, HExit.out (fun h => H1k.out), Hbp.out⟩
                  · have h2d : (Y == y) = false := by simp [h2]
                    have h1k : ltKey y c o[j].1 = false := by rw [HKey.out, h1d, decide_eq_false h2]; rfl
                    have H1k := Lib.hid h1k
                    clear h1k
                    go_upto_if 119 with fail
                    go_wp2
                    go_meet
                    case rel => exact ⟨j, rfl, hj, HExit.out (fun h => H1k.out), Hbp.out⟩
              · have hjo' : ¬ (j : Int) < (o.length : Int) := by omega
                have hjd : decide ((j : Int) < (o.length : Int)) = false := decide_eq_false hjo'
                go_upto_if 119 with fail
                go_wp2
                go_meet
                case rel => exact ⟨j, rfl, hj, HExit.out (fun h => absurd h hjo), Hbp.out⟩
          case rest =>
            obtain ⟨j, rfl, hj, hadd, hbp⟩ := hcut
            have Hadd := Lib.hid hadd
            clear hadd
            obtain ⟨wq, rfl⟩ : ∃ wq : World, wq = wc := ⟨_, rfl⟩
            have Hrcq := Lib.hid (Hrc.out.below hbp)
            have HMq := Lib.hid (ownsRow_below HMo.out hbp)
            have hsq : wo.heap.size ≤ wq.heap.size := hbp.size
            have HbQ : Hid (Below w.heap.size w wq) := Lib.hid (Hb3.out.trans ((Hbw.out.trans (hbp.mono hso)).mono (by omega)))
            clear hbp
            obtain ⟨wz, hwz⟩ : ∃ wz : World, wz = wq.drew := ⟨_, rfl⟩
            have hFin : ∀ v W m2, j + m2 = o.length → World.ownsRow W wq.heap.size 172 3 v (j + 1 + m2) (rcCells (o.take j ++ [((⟨y, c, M⟩ : Rc), q)]) ++ rcCells (o.drop j)) → Below wq.heap.size wq W → ∃ m : RcL, rcs m = addH (rcs l) y c a ∧ W.ownsRow w.heap.size 172 3 v m.length (rcCells m) ∧ (∀ x ∈ m, W.ownsRow b0 68 4 (.slice x.2.a x.1.rg.length x.2.c) x.1.rg.length (rCells x.1.rg)) ∧ Below w.heap.size w W := fun v W m2 hm2 h hB => by
              refine ⟨o.take j ++ [((⟨y, c, M⟩ : Rc), q)] ++ o.drop j, ?_, ?_, fun x hx => ?_, HbQ.out.trans (hB.mono (by omega))⟩
              · rw [Hadd.out]; simp [rcs]
              · rw [rcCells_app]
                have e : (o.take j ++ [((⟨y, c, M⟩ : Rc), q)] ++ o.drop j).length = j + 1 + m2 := by simp; omega
                rw [e]; exact own_rebase h (by omega)
              · refine ownsRow_below ?_ hB
                rcases List.mem_append.1 hx with hx | hx
                · rcases List.mem_append.1 hx with hx | hx
                  · exact Hrcq.out.fs x (List.mem_of_mem_take hx)
                  · rw [List.mem_singleton] at hx; subst hx; exact HMq.out
                · exact Hrcq.out.fs x (List.mem_of_mem_drop hx)
            have HFin := Lib.hid hFin
            clear hFin hwz wz
            have hk0 : (0 : Int) ≤ (j : Int) := by omega
            have hkn2 : (j : Int) ≤ (o.length : Int) := by omega
            rcases Hrcq.out.o.2 with ⟨e, e2⟩ | ⟨g, oc, cur, e, _, _, hoc1, hoc2, _⟩
            · subst e
              have ej : j = 0 := by omega
              subst ej
              have Ho := Lib.hid (List.length_eq_zero_iff.1 e2)
              have HA1 : Hid (Reads wq wq.heap.size 3 none (0) (rcCells (o.take (0)))) := Lib.hid (by rw [Ho.out]; exact Reads.none_)
              have HA2 : Hid (Reads wq wq.heap.size 3 none 0 (rcCells (o.drop (0)))) := Lib.hid (by rw [Ho.out]; exact Reads.none_)
              generalize o.take (0) = l1 at *
              generalize o.drop (0) = l2 at *

              go_upto_region 26 with fail
              go_region_held3 (fun _ => True)
                (first | trivial | go_keep)
                (first
                  | (refine step_append_any _ rfl (.tmp 133) (.tmp 136) 72 rfl wq.heap.size 172 i0 (.agg #[.int .i64 0, .int .i64 0, .slice none 0 0]) 3 40 Tryz.underlying72 hi hz0 hz1 hz2 rfl (by omega) v2 (0 + 1) (rcCells (l1 ++ [((⟨y, c, M⟩ : Rc), q)])) rfl (by exact Hown2.out) wq.heap.size (none) (0) _ (rcCells l2) rfl (HA2.out.below (by exact HbB.out)) (rcCells_one _) (by unfold maxLen; omega) (by omega) (by exact hsB) ?_
                     intro v3 w3' hown3 hg3 hat3
                     have HbC : Hid (Below wq.heap.size wq w3') := Below.grown HbB.out hg3 hsB (own_base Hown2.out)
                     have Hown3 := Lib.hid hown3
                     clear hown3 hg3 hat3)
                  | (refine step_append_any _ rfl (.tmp 126) (.tmp 132) 72 rfl wq.heap.size 172 i0 (.agg #[.int .i64 0, .int .i64 0, .slice none 0 0]) 3 40 Tryz.underlying72 hi hz0 hz1 hz2 rfl (by omega) v1 (0) (rcCells l1) rfl (by first | exact Hown1.out | exact ownsRow_below Hown1.out (by repeat' (first | with_reducible exact Below.refl _ _ | with_reducible refine below_drewN ?_ _ | with_reducible refine Below.drew ?_ | with_reducible refine Below.alloc ?_ ?_ _ | with_reducible refine Below.setCell ?_ ?_ _ | with_reducible refine Below.trans ?_ (Below.mono (by with_reducible assumption) ?_) | (simp; done) | (simp; omega) | omega))) _ _ 1 1 [.int .i64 y, .int .i64 c, .slice q.a M.length q.c] rfl ⟨rfl, fun _ => ⟨_, rfl, Nat.lt_succ_self _, fun j u hu => (by first | exact news_any _ _ _ j u hu | exact news_far (cs := #[.int .i64 y, .int .i64 c, .slice q.a M.length q.c]) (t := 172) (alloc_second wq _ _) Hg1.out (by simp [Value.ownBlock]) j u hu | exact news_far (cs := #[.int .i64 y, .int .i64 c, .slice q.a M.length q.c]) (t := 172) (alloc_first wq _ _) Hg1.out (by simp [Value.ownBlock]) j u hu)⟩⟩ (by simp [Value.oneCell']) (by unfold maxLen; omega) (by omega) (by first | exact hsA | (simp; omega)) ?_
                     intro v2 w2 hown2 hg2 hat2
                     have HbB : Hid (Below wq.heap.size wq w2) := Below.grown (by have hbA := HbA.out; exact (by repeat' (first | with_reducible exact Below.refl _ _ | with_reducible assumption | with_reducible refine below_drewN ?_ _ | with_reducible refine Below.drew ?_ | with_reducible refine Below.alloc ?_ ?_ _ | with_reducible refine Below.setCell ?_ ?_ _ | with_reducible refine Below.trans ?_ (Below.mono (by with_reducible assumption) ?_) | with_reducible refine below_only ?_ (by with_reducible assumption) ?_ ?_ | (simp; done) | (simp; omega) | omega))) hg2 (by first | (simp; done) | (simp; omega) | omega) (own_base Hown1.out)
                     have hsB : wq.heap.size ≤ w2.heap.size := HbB.out.size
                     have Hown2 : Hid (w2.ownsRow wq.heap.size 172 3 v2 (0 + 1) (rcCells (l1 ++ [((⟨y, c, M⟩ : Rc), q)]))) := Lib.hid (by rw [rcCells_snoc]; exact hown2)
                     clear hown2 hg2 hat2)
                  | (refine step_append_any _ rfl (.tmp 122) (.tmp 125) 72 rfl wq.heap.size 172 i0 (.agg #[.int .i64 0, .int .i64 0, .slice none 0 0]) 3 40 Tryz.underlying72 hi hz0 hz1 hz2 rfl (by omega) (.slice (some ⟨wq.heap.size, 0, none⟩) 0 0) 0 [] rfl (by first | exact own_zero wq _ _ _ (Nat.le_refl _) | exact ownsRow_below (own_zero wq _ _ _ (Nat.le_refl _)) (by repeat' (first | with_reducible exact Below.refl _ _ | with_reducible refine below_drewN ?_ _ | with_reducible refine Below.drew ?_ | with_reducible refine Below.alloc ?_ ?_ _ | with_reducible refine Below.setCell ?_ ?_ _ | with_reducible refine Below.trans ?_ (Below.mono (by with_reducible assumption) ?_) | (simp; done) | (simp; omega) | omega))) wq.heap.size none 0 _ (rcCells l1) rfl (HA1.out.below (by repeat' (first | with_reducible exact Below.refl _ _ | with_reducible refine below_drewN ?_ _ | with_reducible refine Below.drew ?_ | with_reducible refine Below.alloc ?_ ?_ _ | with_reducible refine Below.setCell ?_ ?_ _ | with_reducible refine Below.trans ?_ (Below.mono (by with_reducible assumption) ?_) | (simp; done) | (simp; omega) | omega))) (rcCells_one _) (by unfold maxLen; omega) (by omega) (by first | (simp; done) | (simp; omega)) ?_
                     intro v1 w1 hown1 hg1 hat1
                     simp only [Nat.zero_add, List.nil_append] at hown1
                     have HbA : Hid (Below wq.heap.size wq w1) := Below.grown (by exact (by repeat' (first | with_reducible exact Below.refl _ _ | with_reducible refine below_drewN ?_ _ | with_reducible refine Below.drew ?_ | with_reducible refine Below.alloc ?_ ?_ _ | with_reducible refine Below.setCell ?_ ?_ _ | with_reducible refine Below.trans ?_ (Below.mono (by with_reducible assumption) ?_) | (simp; done) | (simp; omega) | omega))) hg1 (by first | (simp; done) | (simp; omega) | omega) (fun q hq => by injection hq with hq; exact Nat.le_of_eq hq)
                     have hsA : wq.heap.size ≤ w1.heap.size := HbA.out.size
                     have Hg1 := Lib.hid hg1
                     have Hown1 := Lib.hid hown1
                     clear hown1 hg1 hat1)
                  | (refine step_append_any _ rfl (.tmp 122) (.tmp 125) 72 rfl wq.heap.size 172 i0 (.agg #[.int .i64 0, .int .i64 0, .slice none 0 0]) 3 40 Tryz.underlying72 hi hz0 hz1 hz2 rfl (by omega) (.slice (some ⟨wq.heap.size + 1, 0, none⟩) 0 0) 0 [] rfl (by exact own_zero1 wq _ _ _ _ (Nat.le_refl _)) wq.heap.size none 0 _ (rcCells l1) rfl (HA1.out.below (by repeat' (first | with_reducible exact Below.refl _ _ | with_reducible refine below_drewN ?_ _ | with_reducible refine Below.drew ?_ | with_reducible refine Below.alloc ?_ ?_ _ | with_reducible refine Below.setCell ?_ ?_ _ | with_reducible refine Below.trans ?_ (Below.mono (by with_reducible assumption) ?_) | (simp; done) | (simp; omega) | omega))) (rcCells_one _) (by unfold maxLen; omega) (by omega) (by first | (simp; done) | (simp; omega)) ?_
                     intro v1 w1 hown1 hg1 hat1
                     simp only [Nat.zero_add, List.nil_append] at hown1
                     have HbA : Hid (Below wq.heap.size wq w1) := Below.grown (by exact (by repeat' (first | with_reducible exact Below.refl _ _ | with_reducible refine below_drewN ?_ _ | with_reducible refine Below.drew ?_ | with_reducible refine Below.alloc ?_ ?_ _ | with_reducible refine Below.setCell ?_ ?_ _ | with_reducible refine Below.trans ?_ (Below.mono (by with_reducible assumption) ?_) | (simp; done) | (simp; omega) | omega))) hg1 (by first | (simp; done) | (simp; omega) | omega) (fun q hq => by injection hq with hq; subst hq; exact Nat.le_succ _)
                     have hsA : wq.heap.size ≤ w1.heap.size := HbA.out.size
                     have Hg1 := Lib.hid hg1
                     have Hown1 := Lib.hid hown1
                     clear hown1 hg1 hat1)
                  | fail)
              all_goals
                go_wp2
                go_meet
                case rel => exact HFin.out v3 _ _ (by omega) Hown3.out HbC.out
            · subst e
              have hkc : (j : Int) ≤ (oc : Int) := by omega
              by_cases hck : oc = j
              · subst hck
                have hol5 : o.length = oc := by omega
                have HA1 : Hid (Reads wq wq.heap.size 3 (some ⟨g, 0, none⟩) (oc) (rcCells (o.take (oc)))) := Lib.hid (Hrcq.out.sl.reads_take oc (by omega))
                have HA2 : Hid (Reads wq wq.heap.size 3 (some ⟨g, 0, none⟩) 0 (rcCells (o.drop (oc)))) := Lib.hid (by rw [List.drop_eq_nil_of_le (by omega)]; exact (Hrcq.out.sl.reads_take 0 (Nat.zero_le _)))
                generalize o.take (oc) = l1 at *
                generalize o.drop (oc) = l2 at *

                go_upto_region 26 with fail
                go_region_held3 (fun _ => True)
                  (first | trivial | go_keep)
                  (first
                    | (refine step_append_any _ rfl (.tmp 133) (.tmp 136) 72 rfl wq.heap.size 172 i0 (.agg #[.int .i64 0, .int .i64 0, .slice none 0 0]) 3 40 Tryz.underlying72 hi hz0 hz1 hz2 rfl (by omega) v2 (oc + 1) (rcCells (l1 ++ [((⟨y, c, M⟩ : Rc), q)])) rfl (by exact Hown2.out) wq.heap.size ((some ⟨g, 0, none⟩)) (0) _ (rcCells l2) rfl (HA2.out.below (by exact HbB.out)) (rcCells_one _) (by unfold maxLen; omega) (by omega) (by exact hsB) ?_
                       intro v3 w3' hown3 hg3 hat3
                       have HbC : Hid (Below wq.heap.size wq w3') := Below.grown HbB.out hg3 hsB (own_base Hown2.out)
                       have Hown3 := Lib.hid hown3
                       clear hown3 hg3 hat3)
                    | (refine step_append_any _ rfl (.tmp 126) (.tmp 132) 72 rfl wq.heap.size 172 i0 (.agg #[.int .i64 0, .int .i64 0, .slice none 0 0]) 3 40 Tryz.underlying72 hi hz0 hz1 hz2 rfl (by omega) v1 (oc) (rcCells l1) rfl (by first | exact Hown1.out | exact ownsRow_below Hown1.out (by repeat' (first | with_reducible exact Below.refl _ _ | with_reducible refine below_drewN ?_ _ | with_reducible refine Below.drew ?_ | with_reducible refine Below.alloc ?_ ?_ _ | with_reducible refine Below.setCell ?_ ?_ _ | with_reducible refine Below.trans ?_ (Below.mono (by with_reducible assumption) ?_) | (simp; done) | (simp; omega) | omega))) _ _ 1 1 [.int .i64 y, .int .i64 c, .slice q.a M.length q.c] rfl ⟨rfl, fun _ => ⟨_, rfl, Nat.lt_succ_self _, fun j u hu => (by first | exact news_any _ _ _ j u hu | exact news_far (cs := #[.int .i64 y, .int .i64 c, .slice q.a M.length q.c]) (t := 172) (alloc_second wq _ _) Hg1.out (by simp [Value.ownBlock]) j u hu | exact news_far (cs := #[.int .i64 y, .int .i64 c, .slice q.a M.length q.c]) (t := 172) (alloc_first wq _ _) Hg1.out (by simp [Value.ownBlock]) j u hu)⟩⟩ (by simp [Value.oneCell']) (by unfold maxLen; omega) (by omega) (by first | exact hsA | (simp; omega)) ?_
                       intro v2 w2 hown2 hg2 hat2
                       have HbB : Hid (Below wq.heap.size wq w2) := Below.grown (by have hbA := HbA.out; exact (by repeat' (first | with_reducible exact Below.refl _ _ | with_reducible assumption | with_reducible refine below_drewN ?_ _ | with_reducible refine Below.drew ?_ | with_reducible refine Below.alloc ?_ ?_ _ | with_reducible refine Below.setCell ?_ ?_ _ | with_reducible refine Below.trans ?_ (Below.mono (by with_reducible assumption) ?_) | with_reducible refine below_only ?_ (by with_reducible assumption) ?_ ?_ | (simp; done) | (simp; omega) | omega))) hg2 (by first | (simp; done) | (simp; omega) | omega) (own_base Hown1.out)
                       have hsB : wq.heap.size ≤ w2.heap.size := HbB.out.size
                       have Hown2 : Hid (w2.ownsRow wq.heap.size 172 3 v2 (oc + 1) (rcCells (l1 ++ [((⟨y, c, M⟩ : Rc), q)]))) := Lib.hid (by rw [rcCells_snoc]; exact hown2)
                       clear hown2 hg2 hat2)
                    | (refine step_append_any _ rfl (.tmp 122) (.tmp 125) 72 rfl wq.heap.size 172 i0 (.agg #[.int .i64 0, .int .i64 0, .slice none 0 0]) 3 40 Tryz.underlying72 hi hz0 hz1 hz2 rfl (by omega) (.slice (some ⟨wq.heap.size, 0, none⟩) 0 0) 0 [] rfl (by first | exact own_zero wq _ _ _ (Nat.le_refl _) | exact ownsRow_below (own_zero wq _ _ _ (Nat.le_refl _)) (by repeat' (first | with_reducible exact Below.refl _ _ | with_reducible refine below_drewN ?_ _ | with_reducible refine Below.drew ?_ | with_reducible refine Below.alloc ?_ ?_ _ | with_reducible refine Below.setCell ?_ ?_ _ | with_reducible refine Below.trans ?_ (Below.mono (by with_reducible assumption) ?_) | (simp; done) | (simp; omega) | omega))) wq.heap.size (some ⟨g, 0, none⟩) oc _ (rcCells l1) rfl (HA1.out.below (by repeat' (first | with_reducible exact Below.refl _ _ | with_reducible refine below_drewN ?_ _ | with_reducible refine Below.drew ?_ | with_reducible refine Below.alloc ?_ ?_ _ | with_reducible refine Below.setCell ?_ ?_ _ | with_reducible refine Below.trans ?_ (Below.mono (by with_reducible assumption) ?_) | (simp; done) | (simp; omega) | omega))) (rcCells_one _) (by unfold maxLen; omega) (by omega) (by first | (simp; done) | (simp; omega)) ?_
                       intro v1 w1 hown1 hg1 hat1
                       simp only [Nat.zero_add, List.nil_append] at hown1
                       have HbA : Hid (Below wq.heap.size wq w1) := Below.grown (by exact (by repeat' (first | with_reducible exact Below.refl _ _ | with_reducible refine below_drewN ?_ _ | with_reducible refine Below.drew ?_ | with_reducible refine Below.alloc ?_ ?_ _ | with_reducible refine Below.setCell ?_ ?_ _ | with_reducible refine Below.trans ?_ (Below.mono (by with_reducible assumption) ?_) | (simp; done) | (simp; omega) | omega))) hg1 (by first | (simp; done) | (simp; omega) | omega) (fun q hq => by injection hq with hq; exact Nat.le_of_eq hq)
                       have hsA : wq.heap.size ≤ w1.heap.size := HbA.out.size
                       have Hg1 := Lib.hid hg1
                       have Hown1 := Lib.hid hown1
                       clear hown1 hg1 hat1)
                    | (refine step_append_any _ rfl (.tmp 122) (.tmp 125) 72 rfl wq.heap.size 172 i0 (.agg #[.int .i64 0, .int .i64 0, .slice none 0 0]) 3 40 Tryz.underlying72 hi hz0 hz1 hz2 rfl (by omega) (.slice (some ⟨wq.heap.size + 1, 0, none⟩) 0 0) 0 [] rfl (by exact own_zero1 wq _ _ _ _ (Nat.le_refl _)) wq.heap.size (some ⟨g, 0, none⟩) oc _ (rcCells l1) rfl (HA1.out.below (by repeat' (first | with_reducible exact Below.refl _ _ | with_reducible refine below_drewN ?_ _ | with_reducible refine Below.drew ?_ | with_reducible refine Below.alloc ?_ ?_ _ | with_reducible refine Below.setCell ?_ ?_ _ | with_reducible refine Below.trans ?_ (Below.mono (by with_reducible assumption) ?_) | (simp; done) | (simp; omega) | omega))) (rcCells_one _) (by unfold maxLen; omega) (by omega) (by first | (simp; done) | (simp; omega)) ?_
                       intro v1 w1 hown1 hg1 hat1
                       simp only [Nat.zero_add, List.nil_append] at hown1
                       have HbA : Hid (Below wq.heap.size wq w1) := Below.grown (by exact (by repeat' (first | with_reducible exact Below.refl _ _ | with_reducible refine below_drewN ?_ _ | with_reducible refine Below.drew ?_ | with_reducible refine Below.alloc ?_ ?_ _ | with_reducible refine Below.setCell ?_ ?_ _ | with_reducible refine Below.trans ?_ (Below.mono (by with_reducible assumption) ?_) | (simp; done) | (simp; omega) | omega))) hg1 (by first | (simp; done) | (simp; omega) | omega) (fun q hq => by injection hq with hq; subst hq; exact Nat.le_succ _)
                       have hsA : wq.heap.size ≤ w1.heap.size := HbA.out.size
                       have Hg1 := Lib.hid hg1
                       have Hown1 := Lib.hid hown1
                       clear hown1 hg1 hat1)
                    | fail)
                all_goals
                  go_wp2
                  go_meet
                  case rel => exact HFin.out v3 _ _ (by omega) Hown3.out HbC.out
              · have hck2 : ¬ (oc : Int) = (j : Int) := by omega
                have HA1 : Hid (Reads wq wq.heap.size 3 (some ⟨g, 0, none⟩) (j) (rcCells (o.take (j)))) := Lib.hid (Hrcq.out.sl.reads_take j (by omega))
                have HA2 : Hid (Reads wq wq.heap.size 3 (some ⟨g, j * 3, none⟩) (o.length - j) (rcCells (o.drop (j)))) := Lib.hid (by have h9 := Hrcq.out.sl.reads_drop j (by omega) hck; rwa [Nat.zero_add] at h9)
                generalize o.take (j) = l1 at *
                generalize o.drop (j) = l2 at *

                go_upto_region 26 with fail
                go_region_held3 (fun _ => True)
                  (first | trivial | go_keep)
                  (first
                    | (refine step_append_any _ rfl (.tmp 133) (.tmp 136) 72 rfl wq.heap.size 172 i0 (.agg #[.int .i64 0, .int .i64 0, .slice none 0 0]) 3 40 Tryz.underlying72 hi hz0 hz1 hz2 rfl (by omega) v2 (j + 1) (rcCells (l1 ++ [((⟨y, c, M⟩ : Rc), q)])) rfl (by exact Hown2.out) wq.heap.size ((some ⟨g, j * 3, none⟩)) ((o.length - j)) _ (rcCells l2) rfl (HA2.out.below (by exact HbB.out)) (rcCells_one _) (by unfold maxLen; omega) (by omega) (by exact hsB) ?_
                       intro v3 w3' hown3 hg3 hat3
                       have HbC : Hid (Below wq.heap.size wq w3') := Below.grown HbB.out hg3 hsB (own_base Hown2.out)
                       have Hown3 := Lib.hid hown3
                       clear hown3 hg3 hat3)
                    | (refine step_append_any _ rfl (.tmp 126) (.tmp 132) 72 rfl wq.heap.size 172 i0 (.agg #[.int .i64 0, .int .i64 0, .slice none 0 0]) 3 40 Tryz.underlying72 hi hz0 hz1 hz2 rfl (by omega) v1 (j) (rcCells l1) rfl (by first | exact Hown1.out | exact ownsRow_below Hown1.out (by repeat' (first | with_reducible exact Below.refl _ _ | with_reducible refine below_drewN ?_ _ | with_reducible refine Below.drew ?_ | with_reducible refine Below.alloc ?_ ?_ _ | with_reducible refine Below.setCell ?_ ?_ _ | with_reducible refine Below.trans ?_ (Below.mono (by with_reducible assumption) ?_) | (simp; done) | (simp; omega) | omega))) _ _ 1 1 [.int .i64 y, .int .i64 c, .slice q.a M.length q.c] rfl ⟨rfl, fun _ => ⟨_, rfl, Nat.lt_succ_self _, fun j u hu => (by first | exact news_any _ _ _ j u hu | exact news_far (cs := #[.int .i64 y, .int .i64 c, .slice q.a M.length q.c]) (t := 172) (alloc_second wq _ _) Hg1.out (by simp [Value.ownBlock]) j u hu | exact news_far (cs := #[.int .i64 y, .int .i64 c, .slice q.a M.length q.c]) (t := 172) (alloc_first wq _ _) Hg1.out (by simp [Value.ownBlock]) j u hu)⟩⟩ (by simp [Value.oneCell']) (by unfold maxLen; omega) (by omega) (by first | exact hsA | (simp; omega)) ?_
                       intro v2 w2 hown2 hg2 hat2
                       have HbB : Hid (Below wq.heap.size wq w2) := Below.grown (by have hbA := HbA.out; exact (by repeat' (first | with_reducible exact Below.refl _ _ | with_reducible assumption | with_reducible refine below_drewN ?_ _ | with_reducible refine Below.drew ?_ | with_reducible refine Below.alloc ?_ ?_ _ | with_reducible refine Below.setCell ?_ ?_ _ | with_reducible refine Below.trans ?_ (Below.mono (by with_reducible assumption) ?_) | with_reducible refine below_only ?_ (by with_reducible assumption) ?_ ?_ | (simp; done) | (simp; omega) | omega))) hg2 (by first | (simp; done) | (simp; omega) | omega) (own_base Hown1.out)
                       have hsB : wq.heap.size ≤ w2.heap.size := HbB.out.size
                       have Hown2 : Hid (w2.ownsRow wq.heap.size 172 3 v2 (j + 1) (rcCells (l1 ++ [((⟨y, c, M⟩ : Rc), q)]))) := Lib.hid (by rw [rcCells_snoc]; exact hown2)
                       clear hown2 hg2 hat2)
                    | (refine step_append_any _ rfl (.tmp 122) (.tmp 125) 72 rfl wq.heap.size 172 i0 (.agg #[.int .i64 0, .int .i64 0, .slice none 0 0]) 3 40 Tryz.underlying72 hi hz0 hz1 hz2 rfl (by omega) (.slice (some ⟨wq.heap.size, 0, none⟩) 0 0) 0 [] rfl (by first | exact own_zero wq _ _ _ (Nat.le_refl _) | exact ownsRow_below (own_zero wq _ _ _ (Nat.le_refl _)) (by repeat' (first | with_reducible exact Below.refl _ _ | with_reducible refine below_drewN ?_ _ | with_reducible refine Below.drew ?_ | with_reducible refine Below.alloc ?_ ?_ _ | with_reducible refine Below.setCell ?_ ?_ _ | with_reducible refine Below.trans ?_ (Below.mono (by with_reducible assumption) ?_) | (simp; done) | (simp; omega) | omega))) wq.heap.size (some ⟨g, 0, none⟩) j _ (rcCells l1) rfl (HA1.out.below (by repeat' (first | with_reducible exact Below.refl _ _ | with_reducible refine below_drewN ?_ _ | with_reducible refine Below.drew ?_ | with_reducible refine Below.alloc ?_ ?_ _ | with_reducible refine Below.setCell ?_ ?_ _ | with_reducible refine Below.trans ?_ (Below.mono (by with_reducible assumption) ?_) | (simp; done) | (simp; omega) | omega))) (rcCells_one _) (by unfold maxLen; omega) (by omega) (by first | (simp; done) | (simp; omega)) ?_
                       intro v1 w1 hown1 hg1 hat1
                       simp only [Nat.zero_add, List.nil_append] at hown1
                       have HbA : Hid (Below wq.heap.size wq w1) := Below.grown (by exact (by repeat' (first | with_reducible exact Below.refl _ _ | with_reducible refine below_drewN ?_ _ | with_reducible refine Below.drew ?_ | with_reducible refine Below.alloc ?_ ?_ _ | with_reducible refine Below.setCell ?_ ?_ _ | with_reducible refine Below.trans ?_ (Below.mono (by with_reducible assumption) ?_) | (simp; done) | (simp; omega) | omega))) hg1 (by first | (simp; done) | (simp; omega) | omega) (fun q hq => by injection hq with hq; exact Nat.le_of_eq hq)
                       have hsA : wq.heap.size ≤ w1.heap.size := HbA.out.size
                       have Hg1 := Lib.hid hg1
                       have Hown1 := Lib.hid hown1
                       clear hown1 hg1 hat1)
                    | (refine step_append_any _ rfl (.tmp 122) (.tmp 125) 72 rfl wq.heap.size 172 i0 (.agg #[.int .i64 0, .int .i64 0, .slice none 0 0]) 3 40 Tryz.underlying72 hi hz0 hz1 hz2 rfl (by omega) (.slice (some ⟨wq.heap.size + 1, 0, none⟩) 0 0) 0 [] rfl (by exact own_zero1 wq _ _ _ _ (Nat.le_refl _)) wq.heap.size (some ⟨g, 0, none⟩) j _ (rcCells l1) rfl (HA1.out.below (by repeat' (first | with_reducible exact Below.refl _ _ | with_reducible refine below_drewN ?_ _ | with_reducible refine Below.drew ?_ | with_reducible refine Below.alloc ?_ ?_ _ | with_reducible refine Below.setCell ?_ ?_ _ | with_reducible refine Below.trans ?_ (Below.mono (by with_reducible assumption) ?_) | (simp; done) | (simp; omega) | omega))) (rcCells_one _) (by unfold maxLen; omega) (by omega) (by first | (simp; done) | (simp; omega)) ?_
                       intro v1 w1 hown1 hg1 hat1
                       simp only [Nat.zero_add, List.nil_append] at hown1
                       have HbA : Hid (Below wq.heap.size wq w1) := Below.grown (by exact (by repeat' (first | with_reducible exact Below.refl _ _ | with_reducible refine below_drewN ?_ _ | with_reducible refine Below.drew ?_ | with_reducible refine Below.alloc ?_ ?_ _ | with_reducible refine Below.setCell ?_ ?_ _ | with_reducible refine Below.trans ?_ (Below.mono (by with_reducible assumption) ?_) | (simp; done) | (simp; omega) | omega))) hg1 (by first | (simp; done) | (simp; omega) | omega) (fun q hq => by injection hq with hq; subst hq; exact Nat.le_succ _)
                       have hsA : wq.heap.size ≤ w1.heap.size := HbA.out.size
                       have Hg1 := Lib.hid hg1
                       have Hown1 := Lib.hid hown1
                       clear hown1 hg1 hat1)
                    | fail)
                all_goals
                  go_wp2
                  go_meet
                  case rel => exact HFin.out v3 _ _ (by omega) Hown3.out HbC.out
      case rest =>
        obtain ⟨m, hm, hmo, hmf, hmb⟩ := hcut
        obtain ⟨ws, rfl⟩ : ∃ ws : World, ws = wc := ⟨_, rfl⟩
        obtain ⟨mA, mc, rfl, -, hmc, hmt⟩ := own_slice hmo
        have hml : m.length ≤ 30 := by have := Hend.out.2; rw [← hm, rcs_len, rcs_len, Hln.out] at this; omega
        have Hmr : Hid (∀ x ∈ m, Reg 9 81 x.1.rg) := Lib.hid (fun x hx => Hend.out.1.reg x.1 (by rw [← hm]; exact List.mem_map_of_mem hx))
        have Hm := Lib.hid hm
        have Hmo := Lib.hid hmo
        have Hmf := Lib.hid hmf
        have Hmb := Lib.hid hmb
        have Hms := Lib.hid (SlRc.ofRow hmo fun x hx => SlR.ofR (hmf x hx))
        clear hm hmo hmf hmb
        have h200 : ¬ (200 : Int) < (m.length : Int) := by omega
        have h201 : decide ((200 : Int) < (m.length : Int)) = false := decide_eq_false h200
        go_wp2
        go_loopw [17, 143] (fun _ iv wr => ∃ i : Nat, i ≤ m.length ∧ iv = .int .i64 (i : Int) ∧ Below ws.heap.size ws wr) (fun _ iv _ => m.length - (intOf iv).toNat)
        case atStart => exact ⟨0, Nat.zero_le _, rfl, Below.refl _ _⟩
        case round =>
          obtain ⟨p, hp, rfl, hbv⟩ := hrel
          obtain ⟨wv, rfl⟩ : ∃ wv : World, wv = wr := ⟨_, rfl⟩
          have Hbv := Lib.hid hbv
          clear hbv
          by_cases hpm : p < m.length
          · have hpm' : (p : Int) < (m.length : Int) := by omega
            obtain ⟨b5, off5, rfl, hb5l, k0, k1, k2, _⟩ := (Hms.out.below Hbv.out).at p hpm
            have hpl : m[p].1.rg.length ≤ 81 := (Hmr.out _ (List.getElem_mem hpm)).len
            have hpl' : ¬ (120 : Int) < (m[p].1.rg.length : Int) := by omega
            have hpd : decide ((120 : Int) < (m[p].1.rg.length : Int)) = false := decide_eq_false hpl'
            obtain ⟨x, hx⟩ : ∃ x, x = m[p] := ⟨_, rfl⟩
            rw [← hx] at k0 k1 k2 hpl' hpd
            clear hx hpl
            go_upto_region 32 with fail
            obtain ⟨wx, hwx5⟩ : ∃ wx : World, wx = wv.alloc (.cells #[.int .i64 x.1.yr, .int .i64 x.1.cr, .slice x.2.a x.1.rg.length x.2.c] 172) := ⟨_, rfl⟩
            rw [← hwx5]
            have a2 : wx.cell? ⟨wv.heap.size, 2, none⟩ = some (.slice x.2.a x.1.rg.length x.2.c) := by rw [hwx5]; exact cell_of_row _ _ 2 _ _ _ (heap_alloc_new wv _)
            have Hbx : Hid (Below ws.heap.size ws wx) := Lib.hid (by have h := Hbv.out.size; rw [hwx5]; exact Hbv.out.trans (((Below.refl _ _).alloc (Nat.le_refl _) _).mono h))
            clear hwx5 k0 k1 k2
            go_wp2
            go_roundw
            case rel => exact ⟨p + 1, by omega, by go_num, Hbx.out⟩
            case measure => simp [intOf]; omega
          · have hpm' : ¬ (p : Int) < (m.length : Int) := by omega
            go_wp2
            go_ret2
            exact ⟨m, _, rfl, Hm.out, ownsRow_below Hmo.out Hbv.out, fun x hx => ownsRow_below (Hmf.out x hx) Hbv.out, Hmb.out.trans (Hbv.out.mono Hmb.out.size)⟩
end Go.Proofs.YtfmkmhhghmdakaaGreatDoor
