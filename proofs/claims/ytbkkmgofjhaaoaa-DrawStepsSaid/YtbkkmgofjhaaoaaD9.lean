/- Contracts: next, Close, Finish (draw). -/
import Derived.Test.YtbkkmgofjhaaoaaD7
import Derived.Test.YtbkkmgofjhaaoaaD8
namespace Go.Proofs.Ytbkkmgofjhaaoaa
open Go.RowKit
set_option linter.unusedVariables false
set_option linter.unusedSimpArgs false

/-- A draw in the state behind one, and the error. -/
def nextD (d : Dr) (s : Int) : Dr × Int := if usableD d s = 0 then ({ d with st := d.st + 1 }, 0) else (d, usableD d s)
/-- Whether a party may not hand in. -/
def noSeal (d : Dr) (k : Int) : Bool := decide (k < 0) || decide ((d.sd.length : Int) ≤ k) || d.sd.getD k.toNat true
def commitD (d : Dr) (k s : Int) : Dr × Int := if usableD d 1 = 0 then (if noSeal d k then (d, 63) else ({ d with se := d.se.set k.toNat s, sd := d.sd.set k.toNat true }, 0)) else (d, usableD d 1)
def noShow (d : Dr) (k : Int) : Bool := decide (k < 0) || decide ((d.sd.length : Int) ≤ k) || !d.sd.getD k.toNat false || d.rv.getD k.toNat true
def revealD (d : Dr) (k a b : Int) : Dr × Int := if usableD d 2 = 0 then (if noShow d k then (d, 63) else if sealI k a b = d.se.getD k.toNat 0 then ({ d with sx := d.sx.set k.toNat a, rv := d.rv.set k.toNat true }, 0) else (d, 62)) else (d, usableD d 2)
theorem usable_lens {d : Dr} {s : Int} (h : usableD d s = 0) : d.st = s ∧ 1 ≤ d.se.length ∧ d.sd.length = d.se.length ∧ d.sx.length = d.se.length ∧ d.rv.length = d.se.length ∧ 1 ≤ d.st ∧ d.st ≤ 3 := by
  unfold usableD at h
  by_cases hc : checkD d = 0
  · rw [if_pos hc] at h
    have hs : d.st = s := by
      by_cases hs : d.st = s
      · exact hs
      · rw [if_neg hs] at h; cases h
    unfold checkD at hc
    split at hc
    · rename_i hf
      simp [formD] at hf
      exact ⟨hs, by omega, by omega, by omega, by omega, by omega, by omega⟩
    · cases hc
  · rw [if_neg hc] at h
    exact absurd h hc

set_option maxHeartbeats 4000000 in
set_option maxRecDepth 100000 in
theorem nextD_any (p : DV) (d : Dr) (s : Int) (w : World) (h : DrAt w p d) (hl : d.small) : Calls Try.prog 46 #[.agg #[.int .i64 d.st, .slice p.a1 d.se.length p.c1, .slice p.a2 d.sd.length p.c2, .slice p.a3 d.sx.length p.c3, .slice p.a4 d.rv.length p.c4], .int .i64 s] w (DrEPost w (nextD d s)) := by
  have H := Lib.hid h
  clear h
  have Hn : Hid (nextD d s = if usableD d s = 0 then ({ d with st := d.st + 1 }, 0) else (d, usableD d s)) := Lib.hid rfl
  obtain ⟨u, hu⟩ : ∃ u, usableD d s = u := ⟨_, rfl⟩
  have HU := Lib.hid hu
  by_cases h0 : u = 0
  · have e0 : nextD d s = ({ d with st := d.st + 1 }, 0) := by rw [Hn.out, hu, if_pos h0]
    obtain ⟨x1, x2, x3, x4, x5, hst1, hst3⟩ := usable_lens (hu.trans h0)
    clear x1 x2 x3 x4 x5
    rw [e0]
    subst h0
    have hwr : IntKind.i64.wrap (d.st + 1) = d.st + 1 := IntWalk.i64_in _ (by omega)
    clear e0 hu Hn
    go_enter Try.func46, Try.ntmps46
    go_wp2_with (first
      | (go_at_call 43
         refine (clone_any p d _ (H.out.below (by repeat' (first | with_reducible exact Below.refl _ _ | with_reducible refine below_drewN ?_ _ | with_reducible refine Below.drew ?_ | with_reducible refine Below.alloc ?_ ?_ _ | with_reducible refine Below.setCell ?_ ?_ _ | with_reducible refine Below.trans ?_ (Below.mono (by with_reducible assumption) ?_) | (simp; done) | (simp; omega) | omega))) hl).mono ?_
         rintro e w1 ⟨q, rfl, hown1, hb1⟩
         have hr1 : w1.heap[w.heap.size]? = some (.cells #[.int .i64 d.st, .slice p.a1 d.se.length p.c1, .slice p.a2 d.sd.length p.c2, .slice p.a3 d.sx.length p.c3, .slice p.a4 d.rv.length p.c4] 26 (0, 0)) := (hb1.block _ (by first | (simp; done) | (simp; omega))).trans ((Below.heap_alloc _ _ _ (by first | (simp; done) | (simp; omega))).trans (heap_alloc_new w _))
         have hz1 : w1.heap[w.heap.size + 1]? = some (.cells #[.int .i64 0, .slice none 0 0, .slice none 0 0, .slice none 0 0, .slice none 0 0] 26 (0, 0)) := (hb1.block _ (by first | (simp; done) | (simp; omega))).trans (by have := heap_alloc2_new w (.cells #[.int .i64 d.st, .slice p.a1 d.se.length p.c1, .slice p.a2 d.sd.length p.c2, .slice p.a3 d.sx.length p.c3, .slice p.a4 d.rv.length p.c4] 26) (.cells #[.int .i64 0, .slice none 0 0, .slice none 0 0, .slice none 0 0, .slice none 0 0] 26); exact this)
         have hs1 : w.heap.size + 1 < w1.heap.size := (by have := hb1.size; simp at this; omega)
         have hs1' : w.heap.size < w1.heap.size := Nat.lt_trans (Nat.lt_succ_self _) hs1
         have hs1'' : w.heap.size ≤ w1.heap.size := Nat.le_of_lt hs1'
         have Hb1 : Hid (Below w.heap.size w w1) := Lib.hid (show Below w.heap.size w w1 from (by have hbq := hb1; exact (by repeat' (first | with_reducible exact Below.refl _ _ | with_reducible assumption | with_reducible refine below_drewN ?_ _ | with_reducible refine Below.drew ?_ | with_reducible refine Below.alloc ?_ ?_ _ | with_reducible refine Below.setCell ?_ ?_ _ | with_reducible refine Below.trans ?_ (Below.mono (by with_reducible assumption) ?_) | with_reducible refine below_only ?_ (by with_reducible assumption) ?_ ?_ | (simp; done) | (simp; omega) | omega))))
         have Hown1 : Hid (OwnD w1 (w.heap.size + 2) q d) := Lib.hid (hown1.rebase (by first | (simp; done) | (simp; omega)))
         have Hr1 := Lib.hid hr1
         have Hz1 := Lib.hid hz1
         have c10 := cell_of_row w1 (w.heap.size) 0 _ _ _ hr1; have c11 := cell_of_row w1 (w.heap.size) 1 _ _ _ hr1; have c12 := cell_of_row w1 (w.heap.size) 2 _ _ _ hr1; have c13 := cell_of_row w1 (w.heap.size) 3 _ _ _ hr1; have c14 := cell_of_row w1 (w.heap.size) 4 _ _ _ hr1;
         clear hown1 hb1 hr1 hz1)
      | (go_at_call 44
         refine (usable_any p d s _ (H.out.below (Hb1.out.trans (Below.mono (show Below w1.heap.size w1 _ from (by repeat' (first | with_reducible exact Below.refl _ _ | with_reducible refine below_drewN ?_ _ | with_reducible refine Below.drew ?_ | with_reducible refine Below.alloc ?_ ?_ _ | with_reducible refine Below.setCell ?_ ?_ _ | with_reducible refine Below.trans ?_ (Below.mono (by with_reducible assumption) ?_) | (simp; done) | (simp; omega) | omega))) hs1'')))).mono ?_
         rintro e w3 ⟨rfl, hb3⟩
         rw [HU.out]
         have Hb3 : Hid (Below w1.heap.size w1 w3) := Lib.hid (show Below w1.heap.size w1 w3 from (by have hbq := hb3; exact (by repeat' (first | with_reducible exact Below.refl _ _ | with_reducible assumption | with_reducible refine below_drewN ?_ _ | with_reducible refine Below.drew ?_ | with_reducible refine Below.alloc ?_ ?_ _ | with_reducible refine Below.setCell ?_ ?_ _ | with_reducible refine Below.trans ?_ (Below.mono (by with_reducible assumption) ?_) | with_reducible refine below_only ?_ (by with_reducible assumption) ?_ ?_ | (simp; done) | (simp; omega) | omega))))
         have hr3 : w3.heap[w.heap.size]? = some (.cells #[.int .i64 d.st, .slice p.a1 d.se.length p.c1, .slice p.a2 d.sd.length p.c2, .slice p.a3 d.sx.length p.c3, .slice p.a4 d.rv.length p.c4] 26 (0, 0)) := (Hb3.out.block _ hs1').trans Hr1.out
         have hz3 : w3.heap[w.heap.size + 1]? = some (.cells #[.int .i64 0, .slice none 0 0, .slice none 0 0, .slice none 0 0, .slice none 0 0] 26 (0, 0)) := (Hb3.out.block _ hs1).trans Hz1.out
         have ht3 : w3.heap[w1.heap.size]? = some (.cells #[.int .i64 d.st, .slice q.a1 d.se.length q.c1, .slice q.a2 d.sd.length q.c2, .slice q.a3 d.sx.length q.c3, .slice q.a4 d.rv.length q.c4] 26 (0, 0)) := (hb3.block _ (by first | (simp; done) | (simp; omega))).trans (heap_alloc_new w1 _)
         have Hown3 : Hid (OwnD w3 (w.heap.size + 2) q d) := Lib.hid (Hown1.out.below Hb3.out)
         have hs3 : w1.heap.size < w3.heap.size := (by have := hb3.size; simp at this; omega)
         have Hz3 := Lib.hid hz3
         have Ht3 := Lib.hid ht3
         have HB3 : Hid (Below w.heap.size w w3) := Lib.hid (Hb1.out.trans (Hb3.out.mono hs1''))
         have c30 := cell_of_row w3 (w.heap.size) 0 _ _ _ hr3; have c31 := cell_of_row w3 (w.heap.size) 1 _ _ _ hr3; have c32 := cell_of_row w3 (w.heap.size) 2 _ _ _ hr3; have c33 := cell_of_row w3 (w.heap.size) 3 _ _ _ hr3; have c34 := cell_of_row w3 (w.heap.size) 4 _ _ _ hr3; have t30 := cell_of_row w3 (w1.heap.size) 0 _ _ _ ht3; have t31 := cell_of_row w3 (w1.heap.size) 1 _ _ _ ht3; have t32 := cell_of_row w3 (w1.heap.size) 2 _ _ _ ht3; have t33 := cell_of_row w3 (w1.heap.size) 3 _ _ _ ht3; have t34 := cell_of_row w3 (w1.heap.size) 4 _ _ _ ht3; have z30 := cell_of_row w3 (w.heap.size + 1) 0 _ _ _ hz3; have z31 := cell_of_row w3 (w.heap.size + 1) 1 _ _ _ hz3; have z32 := cell_of_row w3 (w.heap.size + 1) 2 _ _ _ hz3; have z33 := cell_of_row w3 (w.heap.size + 1) 3 _ _ _ hz3; have z34 := cell_of_row w3 (w.heap.size + 1) 4 _ _ _ hz3; have g30 := frozen_of_row w3 (w.heap.size + 1) 0 _ _ hz3; have g31 := frozen_of_row w3 (w.heap.size + 1) 1 _ _ hz3; have g32 := frozen_of_row w3 (w.heap.size + 1) 2 _ _ hz3; have g33 := frozen_of_row w3 (w.heap.size + 1) 3 _ _ hz3; have g34 := frozen_of_row w3 (w.heap.size + 1) 4 _ _ hz3; have u30 := frozen_of_row w3 (w1.heap.size) 0 _ _ ht3; have u31 := frozen_of_row w3 (w1.heap.size) 1 _ _ ht3; have u32 := frozen_of_row w3 (w1.heap.size) 2 _ _ ht3; have u33 := frozen_of_row w3 (w1.heap.size) 3 _ _ ht3; have u34 := frozen_of_row w3 (w1.heap.size) 4 _ _ ht3;
           clear hb3 hr3 hz3 ht3)
      | fail)
    have hzS : (w3.setCell ⟨w1.heap.size, 0, none⟩ (.int .i64 (d.st + 1))).heap[w.heap.size + 1]? = some (.cells #[.int .i64 0, .slice none 0 0, .slice none 0 0, .slice none 0 0, .slice none 0 0] 26 (0, 0)) := (Below.heap_setCell w3 ⟨w1.heap.size, 0, none⟩ _ _ (by simp; omega)).trans Hz3.out
    have hz5 := box5 (x := .int .i64 (d.st + 1)) (y := .slice q.a1 d.se.length q.c1) (z := .slice q.a2 d.sd.length q.c2) (u := .slice q.a3 d.sx.length q.c3) (v := .slice q.a4 d.rv.length q.c4) hzS
    have y0 := cell_of_row _ _ 0 _ _ _ hz5
    have y1 := cell_of_row _ _ 1 _ _ _ hz5
    have y2 := cell_of_row _ _ 2 _ _ _ hz5
    have y3 := cell_of_row _ _ 3 _ _ _ hz5
    have y4 := cell_of_row _ _ 4 _ _ _ hz5
    refine bodyPost_ret (v := .tuple #[.agg #[.int .i64 (d.st + 1), .slice q.a1 d.se.length q.c1, .slice q.a2 d.sd.length q.c2, .slice q.a3 d.sx.length q.c3, .slice q.a4 d.rv.length q.c4], .int .i64 0]) (by simp [results, Try.results46, go_sem, *]) rfl ?_
    exact ⟨q, rfl, ((OwnD.young (Hown1.out.state (d.st + 1)) (Nat.le_refl _) (Hown3.out.state (d.st + 1)) (only_setCell (World.grownBy.refl _ _) (.inl rfl) _)).old box5_only (by omega)).rebase (by omega), box5_below (HB3.out.setCell hs1'' _) (by omega)⟩
  · have e0 : nextD d s = (d, u) := by rw [Hn.out, hu, if_neg h0]
    rw [e0]
    clear e0 hu Hn
    go_enter Try.func46, Try.ntmps46
    go_wp2_with (first
      | (go_at_call 43
         refine (clone_any p d _ (H.out.below (by repeat' (first | with_reducible exact Below.refl _ _ | with_reducible refine below_drewN ?_ _ | with_reducible refine Below.drew ?_ | with_reducible refine Below.alloc ?_ ?_ _ | with_reducible refine Below.setCell ?_ ?_ _ | with_reducible refine Below.trans ?_ (Below.mono (by with_reducible assumption) ?_) | (simp; done) | (simp; omega) | omega))) hl).mono ?_
         rintro e w1 ⟨q, rfl, hown1, hb1⟩
         have hr1 : w1.heap[w.heap.size]? = some (.cells #[.int .i64 d.st, .slice p.a1 d.se.length p.c1, .slice p.a2 d.sd.length p.c2, .slice p.a3 d.sx.length p.c3, .slice p.a4 d.rv.length p.c4] 26 (0, 0)) := (hb1.block _ (by first | (simp; done) | (simp; omega))).trans ((Below.heap_alloc _ _ _ (by first | (simp; done) | (simp; omega))).trans (heap_alloc_new w _))
         have hz1 : w1.heap[w.heap.size + 1]? = some (.cells #[.int .i64 0, .slice none 0 0, .slice none 0 0, .slice none 0 0, .slice none 0 0] 26 (0, 0)) := (hb1.block _ (by first | (simp; done) | (simp; omega))).trans (by have := heap_alloc2_new w (.cells #[.int .i64 d.st, .slice p.a1 d.se.length p.c1, .slice p.a2 d.sd.length p.c2, .slice p.a3 d.sx.length p.c3, .slice p.a4 d.rv.length p.c4] 26) (.cells #[.int .i64 0, .slice none 0 0, .slice none 0 0, .slice none 0 0, .slice none 0 0] 26); exact this)
         have hs1 : w.heap.size + 1 < w1.heap.size := (by have := hb1.size; simp at this; omega)
         have hs1' : w.heap.size < w1.heap.size := Nat.lt_trans (Nat.lt_succ_self _) hs1
         have hs1'' : w.heap.size ≤ w1.heap.size := Nat.le_of_lt hs1'
         have Hb1 : Hid (Below w.heap.size w w1) := Lib.hid (show Below w.heap.size w w1 from (by have hbq := hb1; exact (by repeat' (first | with_reducible exact Below.refl _ _ | with_reducible assumption | with_reducible refine below_drewN ?_ _ | with_reducible refine Below.drew ?_ | with_reducible refine Below.alloc ?_ ?_ _ | with_reducible refine Below.setCell ?_ ?_ _ | with_reducible refine Below.trans ?_ (Below.mono (by with_reducible assumption) ?_) | with_reducible refine below_only ?_ (by with_reducible assumption) ?_ ?_ | (simp; done) | (simp; omega) | omega))))
         have Hown1 : Hid (OwnD w1 (w.heap.size + 2) q d) := Lib.hid (hown1.rebase (by first | (simp; done) | (simp; omega)))
         have Hr1 := Lib.hid hr1
         have Hz1 := Lib.hid hz1
         have c10 := cell_of_row w1 (w.heap.size) 0 _ _ _ hr1; have c11 := cell_of_row w1 (w.heap.size) 1 _ _ _ hr1; have c12 := cell_of_row w1 (w.heap.size) 2 _ _ _ hr1; have c13 := cell_of_row w1 (w.heap.size) 3 _ _ _ hr1; have c14 := cell_of_row w1 (w.heap.size) 4 _ _ _ hr1;
         clear hown1 hb1 hr1 hz1)
      | (go_at_call 44
         refine (usable_any p d s _ (H.out.below (Hb1.out.trans (Below.mono (show Below w1.heap.size w1 _ from (by repeat' (first | with_reducible exact Below.refl _ _ | with_reducible refine below_drewN ?_ _ | with_reducible refine Below.drew ?_ | with_reducible refine Below.alloc ?_ ?_ _ | with_reducible refine Below.setCell ?_ ?_ _ | with_reducible refine Below.trans ?_ (Below.mono (by with_reducible assumption) ?_) | (simp; done) | (simp; omega) | omega))) hs1'')))).mono ?_
         rintro e w3 ⟨rfl, hb3⟩
         rw [HU.out]
         have Hb3 : Hid (Below w1.heap.size w1 w3) := Lib.hid (show Below w1.heap.size w1 w3 from (by have hbq := hb3; exact (by repeat' (first | with_reducible exact Below.refl _ _ | with_reducible assumption | with_reducible refine below_drewN ?_ _ | with_reducible refine Below.drew ?_ | with_reducible refine Below.alloc ?_ ?_ _ | with_reducible refine Below.setCell ?_ ?_ _ | with_reducible refine Below.trans ?_ (Below.mono (by with_reducible assumption) ?_) | with_reducible refine below_only ?_ (by with_reducible assumption) ?_ ?_ | (simp; done) | (simp; omega) | omega))))
         have hr3 : w3.heap[w.heap.size]? = some (.cells #[.int .i64 d.st, .slice p.a1 d.se.length p.c1, .slice p.a2 d.sd.length p.c2, .slice p.a3 d.sx.length p.c3, .slice p.a4 d.rv.length p.c4] 26 (0, 0)) := (Hb3.out.block _ hs1').trans Hr1.out
         have hz3 : w3.heap[w.heap.size + 1]? = some (.cells #[.int .i64 0, .slice none 0 0, .slice none 0 0, .slice none 0 0, .slice none 0 0] 26 (0, 0)) := (Hb3.out.block _ hs1).trans Hz1.out
         have ht3 : w3.heap[w1.heap.size]? = some (.cells #[.int .i64 d.st, .slice q.a1 d.se.length q.c1, .slice q.a2 d.sd.length q.c2, .slice q.a3 d.sx.length q.c3, .slice q.a4 d.rv.length q.c4] 26 (0, 0)) := (hb3.block _ (by first | (simp; done) | (simp; omega))).trans (heap_alloc_new w1 _)
         have Hown3 : Hid (OwnD w3 (w.heap.size + 2) q d) := Lib.hid (Hown1.out.below Hb3.out)
         have hs3 : w1.heap.size < w3.heap.size := (by have := hb3.size; simp at this; omega)
         have Hz3 := Lib.hid hz3
         have Ht3 := Lib.hid ht3
         have HB3 : Hid (Below w.heap.size w w3) := Lib.hid (Hb1.out.trans (Hb3.out.mono hs1''))
         have c30 := cell_of_row w3 (w.heap.size) 0 _ _ _ hr3; have c31 := cell_of_row w3 (w.heap.size) 1 _ _ _ hr3; have c32 := cell_of_row w3 (w.heap.size) 2 _ _ _ hr3; have c33 := cell_of_row w3 (w.heap.size) 3 _ _ _ hr3; have c34 := cell_of_row w3 (w.heap.size) 4 _ _ _ hr3; have t30 := cell_of_row w3 (w1.heap.size) 0 _ _ _ ht3; have t31 := cell_of_row w3 (w1.heap.size) 1 _ _ _ ht3; have t32 := cell_of_row w3 (w1.heap.size) 2 _ _ _ ht3; have t33 := cell_of_row w3 (w1.heap.size) 3 _ _ _ ht3; have t34 := cell_of_row w3 (w1.heap.size) 4 _ _ _ ht3; have z30 := cell_of_row w3 (w.heap.size + 1) 0 _ _ _ hz3; have z31 := cell_of_row w3 (w.heap.size + 1) 1 _ _ _ hz3; have z32 := cell_of_row w3 (w.heap.size + 1) 2 _ _ _ hz3; have z33 := cell_of_row w3 (w.heap.size + 1) 3 _ _ _ hz3; have z34 := cell_of_row w3 (w.heap.size + 1) 4 _ _ _ hz3; have g30 := frozen_of_row w3 (w.heap.size + 1) 0 _ _ hz3; have g31 := frozen_of_row w3 (w.heap.size + 1) 1 _ _ hz3; have g32 := frozen_of_row w3 (w.heap.size + 1) 2 _ _ hz3; have g33 := frozen_of_row w3 (w.heap.size + 1) 3 _ _ hz3; have g34 := frozen_of_row w3 (w.heap.size + 1) 4 _ _ hz3; have u30 := frozen_of_row w3 (w1.heap.size) 0 _ _ ht3; have u31 := frozen_of_row w3 (w1.heap.size) 1 _ _ ht3; have u32 := frozen_of_row w3 (w1.heap.size) 2 _ _ ht3; have u33 := frozen_of_row w3 (w1.heap.size) 3 _ _ ht3; have u34 := frozen_of_row w3 (w1.heap.size) 4 _ _ ht3;
           clear hb3 hr3 hz3 ht3)
      | fail)
    have hz5 := box5 (x := .int .i64 (d.st)) (y := .slice q.a1 d.se.length q.c1) (z := .slice q.a2 d.sd.length q.c2) (u := .slice q.a3 d.sx.length q.c3) (v := .slice q.a4 d.rv.length q.c4) Hz3.out
    have y0 := cell_of_row _ _ 0 _ _ _ hz5
    have y1 := cell_of_row _ _ 1 _ _ _ hz5
    have y2 := cell_of_row _ _ 2 _ _ _ hz5
    have y3 := cell_of_row _ _ 3 _ _ _ hz5
    have y4 := cell_of_row _ _ 4 _ _ _ hz5
    refine bodyPost_ret (v := .tuple #[.agg #[.int .i64 (d.st), .slice q.a1 d.se.length q.c1, .slice q.a2 d.sd.length q.c2, .slice q.a3 d.sx.length q.c3, .slice q.a4 d.rv.length q.c4], .int .i64 u]) (by simp [results, Try.results46, go_sem, *]) rfl ?_
    exact ⟨q, rfl, ((Hown3.out).old box5_only (by omega)).rebase (by omega), box5_below HB3.out (by omega)⟩

set_option maxHeartbeats 1000000 in
theorem close_any (p : DV) (d : Dr) (w : World) (h : DrAt w p d) (hl : d.small) : Calls Try.prog 20 #[.agg #[.int .i64 d.st, .slice p.a1 d.se.length p.c1, .slice p.a2 d.sd.length p.c2, .slice p.a3 d.sx.length p.c3, .slice p.a4 d.rv.length p.c4]] w (DrEPost w (nextD d 1)) := by
  have H := Lib.hid h
  clear h
  obtain ⟨x, hx⟩ : ∃ x, nextD d 1 = x := ⟨_, rfl⟩
  have Hx := Lib.hid hx
  rw [hx]
  obtain ⟨d', er⟩ := x
  clear hx
  go_enter Try.func20, Try.ntmps20
  go_wp2_with (first
    | (go_at_call 46
       refine (nextD_any p d 1 _ (H.out.below (by repeat' (first | with_reducible exact Below.refl _ _ | with_reducible refine below_drewN ?_ _ | with_reducible refine Below.drew ?_ | with_reducible refine Below.alloc ?_ ?_ _ | with_reducible refine Below.setCell ?_ ?_ _ | with_reducible refine Below.trans ?_ (Below.mono (by with_reducible assumption) ?_) | (simp; done) | (simp; omega) | omega))) hl).mono ?_
       rintro e w1 ⟨q, rfl, hown1, hb1⟩
       rw [Hx.out] at hown1 ⊢
       simp only at hown1 ⊢
       have hz1 : w1.heap[w.heap.size + 1]? = some (.cells #[.int .i64 0, .slice none 0 0, .slice none 0 0, .slice none 0 0, .slice none 0 0] 26 (0, 0)) := (hb1.block _ (by first | (simp; done) | (simp; omega))).trans (by have := heap_alloc2_new w (.cells #[.int .i64 d.st, .slice p.a1 d.se.length p.c1, .slice p.a2 d.sd.length p.c2, .slice p.a3 d.sx.length p.c3, .slice p.a4 d.rv.length p.c4] 26) (.cells #[.int .i64 0, .slice none 0 0, .slice none 0 0, .slice none 0 0, .slice none 0 0] 26); exact this)
       have Hb1 : Hid (Below w.heap.size w w1) := Lib.hid (show Below w.heap.size w w1 from (by have hbq := hb1; exact (by repeat' (first | with_reducible exact Below.refl _ _ | with_reducible assumption | with_reducible refine below_drewN ?_ _ | with_reducible refine Below.drew ?_ | with_reducible refine Below.alloc ?_ ?_ _ | with_reducible refine Below.setCell ?_ ?_ _ | with_reducible refine Below.trans ?_ (Below.mono (by with_reducible assumption) ?_) | with_reducible refine below_only ?_ (by with_reducible assumption) ?_ ?_ | (simp; done) | (simp; omega) | omega))))
       have Hown1 : Hid (OwnD w1 (w.heap.size + 2) q d') := Lib.hid (hown1.rebase (by first | (simp; done) | (simp; omega)))
       have hz5 := box5 (x := .int .i64 d'.st) (y := .slice q.a1 d'.se.length q.c1) (z := .slice q.a2 d'.sd.length q.c2) (u := .slice q.a3 d'.sx.length q.c3) (v := .slice q.a4 d'.rv.length q.c4) hz1
       have z10 := cell_of_row w1 (w.heap.size + 1) 0 _ _ _ hz1; have z11 := cell_of_row w1 (w.heap.size + 1) 1 _ _ _ hz1; have z12 := cell_of_row w1 (w.heap.size + 1) 2 _ _ _ hz1; have z13 := cell_of_row w1 (w.heap.size + 1) 3 _ _ _ hz1; have z14 := cell_of_row w1 (w.heap.size + 1) 4 _ _ _ hz1; have g10 := frozen_of_row w1 (w.heap.size + 1) 0 _ _ hz1; have g11 := frozen_of_row w1 (w.heap.size + 1) 1 _ _ hz1; have g12 := frozen_of_row w1 (w.heap.size + 1) 2 _ _ hz1; have g13 := frozen_of_row w1 (w.heap.size + 1) 3 _ _ hz1; have g14 := frozen_of_row w1 (w.heap.size + 1) 4 _ _ hz1;
       clear hown1 hb1 hz1)
    | fail)
  have y0 := cell_of_row _ _ 0 _ _ _ hz5
  have y1 := cell_of_row _ _ 1 _ _ _ hz5
  have y2 := cell_of_row _ _ 2 _ _ _ hz5
  have y3 := cell_of_row _ _ 3 _ _ _ hz5
  have y4 := cell_of_row _ _ 4 _ _ _ hz5
  refine bodyPost_ret (v := .tuple #[.agg #[.int .i64 d'.st, .slice q.a1 d'.se.length q.c1, .slice q.a2 d'.sd.length q.c2, .slice q.a3 d'.sx.length q.c3, .slice q.a4 d'.rv.length q.c4], .int .i64 er]) (by simp [results, Try.results20, go_sem, *]) rfl ?_
  exact ⟨q, rfl, ((Hown1.out).old box5_only (by omega)).rebase (by omega), box5_below Hb1.out (by omega)⟩

set_option maxHeartbeats 1000000 in
theorem finish_any (p : DV) (d : Dr) (w : World) (h : DrAt w p d) (hl : d.small) : Calls Try.prog 24 #[.agg #[.int .i64 d.st, .slice p.a1 d.se.length p.c1, .slice p.a2 d.sd.length p.c2, .slice p.a3 d.sx.length p.c3, .slice p.a4 d.rv.length p.c4]] w (DrEPost w (nextD d 2)) := by
  have H := Lib.hid h
  clear h
  obtain ⟨x, hx⟩ : ∃ x, nextD d 2 = x := ⟨_, rfl⟩
  have Hx := Lib.hid hx
  rw [hx]
  obtain ⟨d', er⟩ := x
  clear hx
  go_enter Try.func24, Try.ntmps24
  go_wp2_with (first
    | (go_at_call 46
       refine (nextD_any p d 2 _ (H.out.below (by repeat' (first | with_reducible exact Below.refl _ _ | with_reducible refine below_drewN ?_ _ | with_reducible refine Below.drew ?_ | with_reducible refine Below.alloc ?_ ?_ _ | with_reducible refine Below.setCell ?_ ?_ _ | with_reducible refine Below.trans ?_ (Below.mono (by with_reducible assumption) ?_) | (simp; done) | (simp; omega) | omega))) hl).mono ?_
       rintro e w1 ⟨q, rfl, hown1, hb1⟩
       rw [Hx.out] at hown1 ⊢
       simp only at hown1 ⊢
       have hz1 : w1.heap[w.heap.size + 1]? = some (.cells #[.int .i64 0, .slice none 0 0, .slice none 0 0, .slice none 0 0, .slice none 0 0] 26 (0, 0)) := (hb1.block _ (by first | (simp; done) | (simp; omega))).trans (by have := heap_alloc2_new w (.cells #[.int .i64 d.st, .slice p.a1 d.se.length p.c1, .slice p.a2 d.sd.length p.c2, .slice p.a3 d.sx.length p.c3, .slice p.a4 d.rv.length p.c4] 26) (.cells #[.int .i64 0, .slice none 0 0, .slice none 0 0, .slice none 0 0, .slice none 0 0] 26); exact this)
       have Hb1 : Hid (Below w.heap.size w w1) := Lib.hid (show Below w.heap.size w w1 from (by have hbq := hb1; exact (by repeat' (first | with_reducible exact Below.refl _ _ | with_reducible assumption | with_reducible refine below_drewN ?_ _ | with_reducible refine Below.drew ?_ | with_reducible refine Below.alloc ?_ ?_ _ | with_reducible refine Below.setCell ?_ ?_ _ | with_reducible refine Below.trans ?_ (Below.mono (by with_reducible assumption) ?_) | with_reducible refine below_only ?_ (by with_reducible assumption) ?_ ?_ | (simp; done) | (simp; omega) | omega))))
       have Hown1 : Hid (OwnD w1 (w.heap.size + 2) q d') := Lib.hid (hown1.rebase (by first | (simp; done) | (simp; omega)))
       have hz5 := box5 (x := .int .i64 d'.st) (y := .slice q.a1 d'.se.length q.c1) (z := .slice q.a2 d'.sd.length q.c2) (u := .slice q.a3 d'.sx.length q.c3) (v := .slice q.a4 d'.rv.length q.c4) hz1
       have z10 := cell_of_row w1 (w.heap.size + 1) 0 _ _ _ hz1; have z11 := cell_of_row w1 (w.heap.size + 1) 1 _ _ _ hz1; have z12 := cell_of_row w1 (w.heap.size + 1) 2 _ _ _ hz1; have z13 := cell_of_row w1 (w.heap.size + 1) 3 _ _ _ hz1; have z14 := cell_of_row w1 (w.heap.size + 1) 4 _ _ _ hz1; have g10 := frozen_of_row w1 (w.heap.size + 1) 0 _ _ hz1; have g11 := frozen_of_row w1 (w.heap.size + 1) 1 _ _ hz1; have g12 := frozen_of_row w1 (w.heap.size + 1) 2 _ _ hz1; have g13 := frozen_of_row w1 (w.heap.size + 1) 3 _ _ hz1; have g14 := frozen_of_row w1 (w.heap.size + 1) 4 _ _ hz1;
       clear hown1 hb1 hz1)
    | fail)
  have y0 := cell_of_row _ _ 0 _ _ _ hz5
  have y1 := cell_of_row _ _ 1 _ _ _ hz5
  have y2 := cell_of_row _ _ 2 _ _ _ hz5
  have y3 := cell_of_row _ _ 3 _ _ _ hz5
  have y4 := cell_of_row _ _ 4 _ _ _ hz5
  refine bodyPost_ret (v := .tuple #[.agg #[.int .i64 d'.st, .slice q.a1 d'.se.length q.c1, .slice q.a2 d'.sd.length q.c2, .slice q.a3 d'.sx.length q.c3, .slice q.a4 d'.rv.length q.c4], .int .i64 er]) (by simp [results, Try.results24, go_sem, *]) rfl ?_
  exact ⟨q, rfl, ((Hown1.out).old box5_only (by omega)).rebase (by omega), box5_below Hb1.out (by omega)⟩
end Go.Proofs.Ytbkkmgofjhaaoaa
