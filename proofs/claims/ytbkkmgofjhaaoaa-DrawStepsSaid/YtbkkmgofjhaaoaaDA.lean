/- Contracts: next, Close, Finish (the reference of draw). -/
import Derived.Test.YtbkkmgofjhaaoaaD9
import Derived.Test.YtbkkmgofjhaaoaaD6
namespace Go.Proofs.Ytbkkmgofjhaaoaa
open Go.RowKit
set_option linter.unusedVariables false
set_option linter.unusedSimpArgs false

theorem checkD_two (d : Dr) : checkD d = 0 ∨ checkD d = 22 := by
  unfold checkD
  split
  · split <;> simp
  · simp
/-- What a call leaves that returns the draw that it was given, or one of its own; and an error. -/
def DrRPost (w : World) (p : DV) (d : Dr) (x : Dr × Int) (e : Ending) (w' : World) : Prop :=
  ∃ q : DV, e = .returned (.tuple #[.agg #[.int .i64 x.1.st, .slice q.a1 x.1.se.length q.c1, .slice q.a2 x.1.sd.length q.c2, .slice q.a3 x.1.sx.length q.c3, .slice q.a4 x.1.rv.length q.c4], .int .i64 x.2]) ∧ ((q = p ∧ x.1 = d) ∨ OwnD w' w.heap.size q x.1) ∧ Below w.heap.size w w'

set_option maxHeartbeats 4000000 in
set_option maxRecDepth 100000 in
theorem nextR_any (p : DV) (d : Dr) (s : Int) (w : World) (h : DrAt w p d) (hl : d.small) : Calls Try.prog 47 #[.agg #[.int .i64 d.st, .slice p.a1 d.se.length p.c1, .slice p.a2 d.sd.length p.c2, .slice p.a3 d.sx.length p.c3, .slice p.a4 d.rv.length p.c4], .int .i64 s] w (DrRPost w p d (nextD d s)) := by
  have H := Lib.hid h
  clear h
  have Hn : Hid (nextD d s = if usableD d s = 0 then ({ d with st := d.st + 1 }, 0) else (d, usableD d s)) := Lib.hid rfl
  have Hu : Hid (usableD d s = if checkD d = 0 then (if d.st = s then 0 else 61) else checkD d) := Lib.hid rfl
  rcases checkD_two d with hc | hc
  · have HC := Lib.hid hc
    by_cases hs : d.st = s
    · have hu : usableD d s = 0 := by rw [Hu.out, hc, if_pos rfl, if_pos hs]
      have e0 : nextD d s = ({ d with st := d.st + 1 }, 0) := by rw [Hn.out, hu, if_pos rfl]
      obtain ⟨x1, x2, x3, x4, x5, hst1, hst3⟩ := usable_lens hu
      clear x1 x2 x3 x4 x5
      rw [e0]
      subst hs
      have hwr : IntKind.i64.wrap (d.st + 1) = d.st + 1 := IntWalk.i64_in _ (by omega)
      clear e0 hu Hn Hu hc
      go_enter Try.func47, Try.ntmps47
      go_upto_region 6 with (first
        | (go_at_call 16
           refine (checkR_any p d _ (H.out.below (by repeat' (first | with_reducible exact Below.refl _ _ | with_reducible refine below_drewN ?_ _ | with_reducible refine Below.drew ?_ | with_reducible refine Below.alloc ?_ ?_ _ | with_reducible refine Below.setCell ?_ ?_ _ | with_reducible refine Below.trans ?_ (Below.mono (by with_reducible assumption) ?_) | (simp; done) | (simp; omega) | omega)))).mono ?_
           rintro e w1 ⟨rfl, hb1⟩
           rw [HC.out]
           have hr1 : w1.heap[w.heap.size]? = some (.cells #[.int .i64 d.st, .slice p.a1 d.se.length p.c1, .slice p.a2 d.sd.length p.c2, .slice p.a3 d.sx.length p.c3, .slice p.a4 d.rv.length p.c4] 26 (0, 0)) := (hb1.block _ (by first | (simp; done) | (simp; omega))).trans ((Below.heap_alloc _ _ _ (by first | (simp; done) | (simp; omega))).trans (heap_alloc_new w _))
           have hz1 : w1.heap[w.heap.size + 1]? = some (.cells #[.int .i64 0, .slice none 0 0, .slice none 0 0, .slice none 0 0, .slice none 0 0] 26 (0, 0)) := (hb1.block _ (by first | (simp; done) | (simp; omega))).trans (by have := heap_alloc2_new w (.cells #[.int .i64 d.st, .slice p.a1 d.se.length p.c1, .slice p.a2 d.sd.length p.c2, .slice p.a3 d.sx.length p.c3, .slice p.a4 d.rv.length p.c4] 26) (.cells #[.int .i64 0, .slice none 0 0, .slice none 0 0, .slice none 0 0, .slice none 0 0] 26); exact this)
           have hs1 : w.heap.size + 1 < w1.heap.size := (by have := hb1.size; simp at this; omega)
           have hs1' : w.heap.size < w1.heap.size := Nat.lt_trans (Nat.lt_succ_self _) hs1
           have hs1'' : w.heap.size ≤ w1.heap.size := Nat.le_of_lt hs1'
           have HB1 : Hid (Below w.heap.size w w1) := Lib.hid (show Below w.heap.size w w1 from (by have hbq := hb1; exact (by repeat' (first | with_reducible exact Below.refl _ _ | with_reducible assumption | with_reducible refine below_drewN ?_ _ | with_reducible refine Below.drew ?_ | with_reducible refine Below.alloc ?_ ?_ _ | with_reducible refine Below.setCell ?_ ?_ _ | with_reducible refine Below.trans ?_ (Below.mono (by with_reducible assumption) ?_) | with_reducible refine below_only ?_ (by with_reducible assumption) ?_ ?_ | (simp; done) | (simp; omega) | omega))))
           have Hr1 := Lib.hid hr1
           have Hz1 := Lib.hid hz1
           have c10 := cell_of_row w1 (w.heap.size) 0 _ _ _ hr1; have c11 := cell_of_row w1 (w.heap.size) 1 _ _ _ hr1; have c12 := cell_of_row w1 (w.heap.size) 2 _ _ _ hr1; have c13 := cell_of_row w1 (w.heap.size) 3 _ _ _ hr1; have c14 := cell_of_row w1 (w.heap.size) 4 _ _ _ hr1; have z10 := cell_of_row w1 (w.heap.size + 1) 0 _ _ _ hz1; have z11 := cell_of_row w1 (w.heap.size + 1) 1 _ _ _ hz1; have z12 := cell_of_row w1 (w.heap.size + 1) 2 _ _ _ hz1; have z13 := cell_of_row w1 (w.heap.size + 1) 3 _ _ _ hz1; have z14 := cell_of_row w1 (w.heap.size + 1) 4 _ _ _ hz1; have g10 := frozen_of_row w1 (w.heap.size + 1) 0 _ _ hz1; have g11 := frozen_of_row w1 (w.heap.size + 1) 1 _ _ hz1; have g12 := frozen_of_row w1 (w.heap.size + 1) 2 _ _ hz1; have g13 := frozen_of_row w1 (w.heap.size + 1) 3 _ _ hz1; have g14 := frozen_of_row w1 (w.heap.size + 1) 4 _ _ hz1;
             clear hb1 hr1 hz1)
        | (go_at_call 45
           refine (copied_any p d _ (H.out.below (HB1.out.trans ((show Below w1.heap.size w1 _ from (by repeat' (first | with_reducible exact Below.refl _ _ | with_reducible refine below_drewN ?_ _ | with_reducible refine Below.drew ?_ | with_reducible refine Below.alloc ?_ ?_ _ | with_reducible refine Below.setCell ?_ ?_ _ | with_reducible refine Below.trans ?_ (Below.mono (by with_reducible assumption) ?_) | (simp; done) | (simp; omega) | omega))).mono hs1''))) hl).mono ?_
           rintro e w3 ⟨q, rfl, hown3, hb3⟩
           have Hown3 : Hid (OwnD w3 (w.heap.size + 2) q d) := Lib.hid (hown3.rebase (by have := hs1; first | omega | (simp; omega)))
           have Hb3 : Hid (Below w1.heap.size w1 w3) := Lib.hid (show Below w1.heap.size w1 w3 from (by have hbq := hb3; exact (by repeat' (first | with_reducible exact Below.refl _ _ | with_reducible assumption | with_reducible refine below_drewN ?_ _ | with_reducible refine Below.drew ?_ | with_reducible refine Below.alloc ?_ ?_ _ | with_reducible refine Below.setCell ?_ ?_ _ | with_reducible refine Below.trans ?_ (Below.mono (by with_reducible assumption) ?_) | with_reducible refine below_only ?_ (by with_reducible assumption) ?_ ?_ | (simp; done) | (simp; omega) | omega))))
           have hs3 : w1.heap.size ≤ w3.heap.size := Hb3.out.size
           have HB4 : Hid (Below w.heap.size w (w3.alloc (.cells #[.int .i64 d.st, .slice q.a1 d.se.length q.c1, .slice q.a2 d.sd.length q.c2, .slice q.a3 d.sx.length q.c3, .slice q.a4 d.rv.length q.c4] 26))) := Lib.hid ((HB1.out.trans (Hb3.out.mono hs1'')).alloc (Nat.le_trans hs1'' hs3) _)
           have hz4 : (w3.alloc (.cells #[.int .i64 d.st, .slice q.a1 d.se.length q.c1, .slice q.a2 d.sd.length q.c2, .slice q.a3 d.sx.length q.c3, .slice q.a4 d.rv.length q.c4] 26)).heap[w.heap.size + 1]? = some (.cells #[.int .i64 0, .slice none 0 0, .slice none 0 0, .slice none 0 0, .slice none 0 0] 26 (0, 0)) := (Below.heap_alloc _ _ _ (by omega)).trans ((Hb3.out.block _ hs1).trans Hz1.out)
           have ht4 : (w3.alloc (.cells #[.int .i64 d.st, .slice q.a1 d.se.length q.c1, .slice q.a2 d.sd.length q.c2, .slice q.a3 d.sx.length q.c3, .slice q.a4 d.rv.length q.c4] 26)).heap[w3.heap.size]? = some (.cells #[.int .i64 d.st, .slice q.a1 d.se.length q.c1, .slice q.a2 d.sd.length q.c2, .slice q.a3 d.sx.length q.c3, .slice q.a4 d.rv.length q.c4] 26 (0, 0)) := heap_alloc_new w3 _
           have hs4 : w3.heap.size < (w3.alloc (.cells #[.int .i64 d.st, .slice q.a1 d.se.length q.c1, .slice q.a2 d.sd.length q.c2, .slice q.a3 d.sx.length q.c3, .slice q.a4 d.rv.length q.c4] 26)).heap.size := by simp
           have Hown4 : Hid (OwnD (w3.alloc (.cells #[.int .i64 d.st, .slice q.a1 d.se.length q.c1, .slice q.a2 d.sd.length q.c2, .slice q.a3 d.sx.length q.c3, .slice q.a4 d.rv.length q.c4] 26)) (w.heap.size + 2) q d) := Lib.hid (Hown3.out.below (Below.alloc (Below.refl _ _) (Nat.le_refl _) _))
           have Hz4 := Lib.hid hz4
           have Ht4 := Lib.hid ht4
           clear hown3 hb3 hz4 ht4)
        | fail)
      generalize w3.alloc (.cells #[.int .i64 d.st, .slice q.a1 d.se.length q.c1, .slice q.a2 d.sd.length q.c2, .slice q.a3 d.sx.length q.c3, .slice q.a4 d.rv.length q.c4] 26) = w4 at *
      have hz4 := Hz4.out
      have ht4 := Ht4.out
      have tt0 := cell_of_row w4 (w3.heap.size) 0 _ _ _ ht4; have tt1 := cell_of_row w4 (w3.heap.size) 1 _ _ _ ht4; have tt2 := cell_of_row w4 (w3.heap.size) 2 _ _ _ ht4; have tt3 := cell_of_row w4 (w3.heap.size) 3 _ _ _ ht4; have tt4 := cell_of_row w4 (w3.heap.size) 4 _ _ _ ht4; have zz0 := cell_of_row w4 (w.heap.size + 1) 0 _ _ _ hz4; have zz1 := cell_of_row w4 (w.heap.size + 1) 1 _ _ _ hz4; have zz2 := cell_of_row w4 (w.heap.size + 1) 2 _ _ _ hz4; have zz3 := cell_of_row w4 (w.heap.size + 1) 3 _ _ _ hz4; have zz4 := cell_of_row w4 (w.heap.size + 1) 4 _ _ _ hz4; have gg0 := frozen_of_row w4 (w.heap.size + 1) 0 _ _ hz4; have gg1 := frozen_of_row w4 (w.heap.size + 1) 1 _ _ hz4; have gg2 := frozen_of_row w4 (w.heap.size + 1) 2 _ _ hz4; have gg3 := frozen_of_row w4 (w.heap.size + 1) 3 _ _ hz4; have gg4 := frozen_of_row w4 (w.heap.size + 1) 4 _ _ hz4; have uu0 := frozen_of_row w4 (w3.heap.size) 0 _ _ ht4; have uu1 := frozen_of_row w4 (w3.heap.size) 1 _ _ ht4; have uu2 := frozen_of_row w4 (w3.heap.size) 2 _ _ ht4; have uu3 := frozen_of_row w4 (w3.heap.size) 3 _ _ ht4; have uu4 := frozen_of_row w4 (w3.heap.size) 4 _ _ ht4;
      clear hz4 ht4
      go_wp2
      have hzS : (w4.setCell ⟨w3.heap.size, 0, none⟩ (.int .i64 (d.st + 1))).heap[w.heap.size + 1]? = some (.cells #[.int .i64 0, .slice none 0 0, .slice none 0 0, .slice none 0 0, .slice none 0 0] 26 (0, 0)) := (Below.heap_setCell w4 ⟨w3.heap.size, 0, none⟩ _ _ (by simp; omega)).trans Hz4.out
      have hz5 := box5 (x := .int .i64 (d.st + 1)) (y := .slice q.a1 d.se.length q.c1) (z := .slice q.a2 d.sd.length q.c2) (u := .slice q.a3 d.sx.length q.c3) (v := .slice q.a4 d.rv.length q.c4) hzS
      have y0 := cell_of_row _ _ 0 _ _ _ hz5
      have y1 := cell_of_row _ _ 1 _ _ _ hz5
      have y2 := cell_of_row _ _ 2 _ _ _ hz5
      have y3 := cell_of_row _ _ 3 _ _ _ hz5
      have y4 := cell_of_row _ _ 4 _ _ _ hz5
      refine bodyPost_ret (v := .tuple #[.agg #[.int .i64 (d.st + 1), .slice q.a1 d.se.length q.c1, .slice q.a2 d.sd.length q.c2, .slice q.a3 d.sx.length q.c3, .slice q.a4 d.rv.length q.c4], .int .i64 0]) (by simp [results, Try.results47, go_sem, *]) rfl ?_
      exact ⟨q, rfl, .inr (((OwnD.young (Hown3.out.state (d.st + 1)) (Nat.le_refl _) (Hown4.out.state (d.st + 1)) (only_setCell (World.grownBy.refl _ _) (.inl rfl) _)).old box5_only (by omega)).rebase (by omega)), box5_below (HB4.out.setCell (by simp; omega) _) (by omega)⟩
    · have hu : usableD d s = 61 := by rw [Hu.out, hc, if_pos rfl, if_neg hs]
      have e0 : nextD d s = (d, 61) := by rw [Hn.out, hu, if_neg (by omega)]
      rw [e0]
      clear e0 hu Hn Hu hc
      go_enter Try.func47, Try.ntmps47
      go_wp2_with (first
        | (go_at_call 16
           refine (checkR_any p d _ (H.out.below (by repeat' (first | with_reducible exact Below.refl _ _ | with_reducible refine below_drewN ?_ _ | with_reducible refine Below.drew ?_ | with_reducible refine Below.alloc ?_ ?_ _ | with_reducible refine Below.setCell ?_ ?_ _ | with_reducible refine Below.trans ?_ (Below.mono (by with_reducible assumption) ?_) | (simp; done) | (simp; omega) | omega)))).mono ?_
           rintro e w1 ⟨rfl, hb1⟩
           rw [HC.out]
           have hr1 : w1.heap[w.heap.size]? = some (.cells #[.int .i64 d.st, .slice p.a1 d.se.length p.c1, .slice p.a2 d.sd.length p.c2, .slice p.a3 d.sx.length p.c3, .slice p.a4 d.rv.length p.c4] 26 (0, 0)) := (hb1.block _ (by first | (simp; done) | (simp; omega))).trans ((Below.heap_alloc _ _ _ (by first | (simp; done) | (simp; omega))).trans (heap_alloc_new w _))
           have hz1 : w1.heap[w.heap.size + 1]? = some (.cells #[.int .i64 0, .slice none 0 0, .slice none 0 0, .slice none 0 0, .slice none 0 0] 26 (0, 0)) := (hb1.block _ (by first | (simp; done) | (simp; omega))).trans (by have := heap_alloc2_new w (.cells #[.int .i64 d.st, .slice p.a1 d.se.length p.c1, .slice p.a2 d.sd.length p.c2, .slice p.a3 d.sx.length p.c3, .slice p.a4 d.rv.length p.c4] 26) (.cells #[.int .i64 0, .slice none 0 0, .slice none 0 0, .slice none 0 0, .slice none 0 0] 26); exact this)
           have hs1 : w.heap.size + 1 < w1.heap.size := (by have := hb1.size; simp at this; omega)
           have hs1' : w.heap.size < w1.heap.size := Nat.lt_trans (Nat.lt_succ_self _) hs1
           have hs1'' : w.heap.size ≤ w1.heap.size := Nat.le_of_lt hs1'
           have HB1 : Hid (Below w.heap.size w w1) := Lib.hid (show Below w.heap.size w w1 from (by have hbq := hb1; exact (by repeat' (first | with_reducible exact Below.refl _ _ | with_reducible assumption | with_reducible refine below_drewN ?_ _ | with_reducible refine Below.drew ?_ | with_reducible refine Below.alloc ?_ ?_ _ | with_reducible refine Below.setCell ?_ ?_ _ | with_reducible refine Below.trans ?_ (Below.mono (by with_reducible assumption) ?_) | with_reducible refine below_only ?_ (by with_reducible assumption) ?_ ?_ | (simp; done) | (simp; omega) | omega))))
           have Hr1 := Lib.hid hr1
           have Hz1 := Lib.hid hz1
           have c10 := cell_of_row w1 (w.heap.size) 0 _ _ _ hr1; have c11 := cell_of_row w1 (w.heap.size) 1 _ _ _ hr1; have c12 := cell_of_row w1 (w.heap.size) 2 _ _ _ hr1; have c13 := cell_of_row w1 (w.heap.size) 3 _ _ _ hr1; have c14 := cell_of_row w1 (w.heap.size) 4 _ _ _ hr1; have z10 := cell_of_row w1 (w.heap.size + 1) 0 _ _ _ hz1; have z11 := cell_of_row w1 (w.heap.size + 1) 1 _ _ _ hz1; have z12 := cell_of_row w1 (w.heap.size + 1) 2 _ _ _ hz1; have z13 := cell_of_row w1 (w.heap.size + 1) 3 _ _ _ hz1; have z14 := cell_of_row w1 (w.heap.size + 1) 4 _ _ _ hz1; have g10 := frozen_of_row w1 (w.heap.size + 1) 0 _ _ hz1; have g11 := frozen_of_row w1 (w.heap.size + 1) 1 _ _ hz1; have g12 := frozen_of_row w1 (w.heap.size + 1) 2 _ _ hz1; have g13 := frozen_of_row w1 (w.heap.size + 1) 3 _ _ hz1; have g14 := frozen_of_row w1 (w.heap.size + 1) 4 _ _ hz1;
             clear hb1 hr1 hz1)
        | (go_at_call 45
           refine (copied_any p d _ (H.out.below (HB1.out.trans ((show Below w1.heap.size w1 _ from (by repeat' (first | with_reducible exact Below.refl _ _ | with_reducible refine below_drewN ?_ _ | with_reducible refine Below.drew ?_ | with_reducible refine Below.alloc ?_ ?_ _ | with_reducible refine Below.setCell ?_ ?_ _ | with_reducible refine Below.trans ?_ (Below.mono (by with_reducible assumption) ?_) | (simp; done) | (simp; omega) | omega))).mono hs1''))) hl).mono ?_
           rintro e w3 ⟨q, rfl, hown3, hb3⟩
           have Hown3 : Hid (OwnD w3 (w.heap.size + 2) q d) := Lib.hid (hown3.rebase (by have := hs1; first | omega | (simp; omega)))
           have Hb3 : Hid (Below w1.heap.size w1 w3) := Lib.hid (show Below w1.heap.size w1 w3 from (by have hbq := hb3; exact (by repeat' (first | with_reducible exact Below.refl _ _ | with_reducible assumption | with_reducible refine below_drewN ?_ _ | with_reducible refine Below.drew ?_ | with_reducible refine Below.alloc ?_ ?_ _ | with_reducible refine Below.setCell ?_ ?_ _ | with_reducible refine Below.trans ?_ (Below.mono (by with_reducible assumption) ?_) | with_reducible refine below_only ?_ (by with_reducible assumption) ?_ ?_ | (simp; done) | (simp; omega) | omega))))
           have hs3 : w1.heap.size ≤ w3.heap.size := Hb3.out.size
           have HB4 : Hid (Below w.heap.size w (w3.alloc (.cells #[.int .i64 d.st, .slice q.a1 d.se.length q.c1, .slice q.a2 d.sd.length q.c2, .slice q.a3 d.sx.length q.c3, .slice q.a4 d.rv.length q.c4] 26))) := Lib.hid ((HB1.out.trans (Hb3.out.mono hs1'')).alloc (Nat.le_trans hs1'' hs3) _)
           have hz4 : (w3.alloc (.cells #[.int .i64 d.st, .slice q.a1 d.se.length q.c1, .slice q.a2 d.sd.length q.c2, .slice q.a3 d.sx.length q.c3, .slice q.a4 d.rv.length q.c4] 26)).heap[w.heap.size + 1]? = some (.cells #[.int .i64 0, .slice none 0 0, .slice none 0 0, .slice none 0 0, .slice none 0 0] 26 (0, 0)) := (Below.heap_alloc _ _ _ (by omega)).trans ((Hb3.out.block _ hs1).trans Hz1.out)
           have ht4 : (w3.alloc (.cells #[.int .i64 d.st, .slice q.a1 d.se.length q.c1, .slice q.a2 d.sd.length q.c2, .slice q.a3 d.sx.length q.c3, .slice q.a4 d.rv.length q.c4] 26)).heap[w3.heap.size]? = some (.cells #[.int .i64 d.st, .slice q.a1 d.se.length q.c1, .slice q.a2 d.sd.length q.c2, .slice q.a3 d.sx.length q.c3, .slice q.a4 d.rv.length q.c4] 26 (0, 0)) := heap_alloc_new w3 _
           have hs4 : w3.heap.size < (w3.alloc (.cells #[.int .i64 d.st, .slice q.a1 d.se.length q.c1, .slice q.a2 d.sd.length q.c2, .slice q.a3 d.sx.length q.c3, .slice q.a4 d.rv.length q.c4] 26)).heap.size := by simp
           have Hown4 : Hid (OwnD (w3.alloc (.cells #[.int .i64 d.st, .slice q.a1 d.se.length q.c1, .slice q.a2 d.sd.length q.c2, .slice q.a3 d.sx.length q.c3, .slice q.a4 d.rv.length q.c4] 26)) (w.heap.size + 2) q d) := Lib.hid (Hown3.out.below (Below.alloc (Below.refl _ _) (Nat.le_refl _) _))
           have Hz4 := Lib.hid hz4
           have Ht4 := Lib.hid ht4
           clear hown3 hb3 hz4 ht4)
        | fail)
      have hz5 := box5 (x := .int .i64 (d.st)) (y := .slice p.a1 d.se.length p.c1) (z := .slice p.a2 d.sd.length p.c2) (u := .slice p.a3 d.sx.length p.c3) (v := .slice p.a4 d.rv.length p.c4) Hz1.out
      have y0 := cell_of_row _ _ 0 _ _ _ hz5
      have y1 := cell_of_row _ _ 1 _ _ _ hz5
      have y2 := cell_of_row _ _ 2 _ _ _ hz5
      have y3 := cell_of_row _ _ 3 _ _ _ hz5
      have y4 := cell_of_row _ _ 4 _ _ _ hz5
      refine bodyPost_ret (v := .tuple #[.agg #[.int .i64 (d.st), .slice p.a1 d.se.length p.c1, .slice p.a2 d.sd.length p.c2, .slice p.a3 d.sx.length p.c3, .slice p.a4 d.rv.length p.c4], .int .i64 61]) (by simp [results, Try.results47, go_sem, *]) rfl ?_
      exact ⟨p, rfl, .inl ⟨rfl, rfl⟩, box5_below HB1.out (by omega)⟩
  · have HC := Lib.hid hc
    have hu : usableD d s = 22 := by rw [Hu.out, hc, if_neg (by omega)]
    have e0 : nextD d s = (d, 22) := by rw [Hn.out, hu, if_neg (by omega)]
    rw [e0]
    clear e0 hu Hn Hu hc
    go_enter Try.func47, Try.ntmps47
    go_wp2_with (first
      | (go_at_call 16
         refine (checkR_any p d _ (H.out.below (by repeat' (first | with_reducible exact Below.refl _ _ | with_reducible refine below_drewN ?_ _ | with_reducible refine Below.drew ?_ | with_reducible refine Below.alloc ?_ ?_ _ | with_reducible refine Below.setCell ?_ ?_ _ | with_reducible refine Below.trans ?_ (Below.mono (by with_reducible assumption) ?_) | (simp; done) | (simp; omega) | omega)))).mono ?_
         rintro e w1 ⟨rfl, hb1⟩
         rw [HC.out]
         have hr1 : w1.heap[w.heap.size]? = some (.cells #[.int .i64 d.st, .slice p.a1 d.se.length p.c1, .slice p.a2 d.sd.length p.c2, .slice p.a3 d.sx.length p.c3, .slice p.a4 d.rv.length p.c4] 26 (0, 0)) := (hb1.block _ (by first | (simp; done) | (simp; omega))).trans ((Below.heap_alloc _ _ _ (by first | (simp; done) | (simp; omega))).trans (heap_alloc_new w _))
         have hz1 : w1.heap[w.heap.size + 1]? = some (.cells #[.int .i64 0, .slice none 0 0, .slice none 0 0, .slice none 0 0, .slice none 0 0] 26 (0, 0)) := (hb1.block _ (by first | (simp; done) | (simp; omega))).trans (by have := heap_alloc2_new w (.cells #[.int .i64 d.st, .slice p.a1 d.se.length p.c1, .slice p.a2 d.sd.length p.c2, .slice p.a3 d.sx.length p.c3, .slice p.a4 d.rv.length p.c4] 26) (.cells #[.int .i64 0, .slice none 0 0, .slice none 0 0, .slice none 0 0, .slice none 0 0] 26); exact this)
         have hs1 : w.heap.size + 1 < w1.heap.size := (by have := hb1.size; simp at this; omega)
         have hs1' : w.heap.size < w1.heap.size := Nat.lt_trans (Nat.lt_succ_self _) hs1
         have hs1'' : w.heap.size ≤ w1.heap.size := Nat.le_of_lt hs1'
         have HB1 : Hid (Below w.heap.size w w1) := Lib.hid (show Below w.heap.size w w1 from (by have hbq := hb1; exact (by repeat' (first | with_reducible exact Below.refl _ _ | with_reducible assumption | with_reducible refine below_drewN ?_ _ | with_reducible refine Below.drew ?_ | with_reducible refine Below.alloc ?_ ?_ _ | with_reducible refine Below.setCell ?_ ?_ _ | with_reducible refine Below.trans ?_ (Below.mono (by with_reducible assumption) ?_) | with_reducible refine below_only ?_ (by with_reducible assumption) ?_ ?_ | (simp; done) | (simp; omega) | omega))))
         have Hr1 := Lib.hid hr1
         have Hz1 := Lib.hid hz1
         have c10 := cell_of_row w1 (w.heap.size) 0 _ _ _ hr1; have c11 := cell_of_row w1 (w.heap.size) 1 _ _ _ hr1; have c12 := cell_of_row w1 (w.heap.size) 2 _ _ _ hr1; have c13 := cell_of_row w1 (w.heap.size) 3 _ _ _ hr1; have c14 := cell_of_row w1 (w.heap.size) 4 _ _ _ hr1; have z10 := cell_of_row w1 (w.heap.size + 1) 0 _ _ _ hz1; have z11 := cell_of_row w1 (w.heap.size + 1) 1 _ _ _ hz1; have z12 := cell_of_row w1 (w.heap.size + 1) 2 _ _ _ hz1; have z13 := cell_of_row w1 (w.heap.size + 1) 3 _ _ _ hz1; have z14 := cell_of_row w1 (w.heap.size + 1) 4 _ _ _ hz1; have g10 := frozen_of_row w1 (w.heap.size + 1) 0 _ _ hz1; have g11 := frozen_of_row w1 (w.heap.size + 1) 1 _ _ hz1; have g12 := frozen_of_row w1 (w.heap.size + 1) 2 _ _ hz1; have g13 := frozen_of_row w1 (w.heap.size + 1) 3 _ _ hz1; have g14 := frozen_of_row w1 (w.heap.size + 1) 4 _ _ hz1;
           clear hb1 hr1 hz1)
      | (go_at_call 45
         refine (copied_any p d _ (H.out.below (HB1.out.trans ((show Below w1.heap.size w1 _ from (by repeat' (first | with_reducible exact Below.refl _ _ | with_reducible refine below_drewN ?_ _ | with_reducible refine Below.drew ?_ | with_reducible refine Below.alloc ?_ ?_ _ | with_reducible refine Below.setCell ?_ ?_ _ | with_reducible refine Below.trans ?_ (Below.mono (by with_reducible assumption) ?_) | (simp; done) | (simp; omega) | omega))).mono hs1''))) hl).mono ?_
         rintro e w3 ⟨q, rfl, hown3, hb3⟩
         have Hown3 : Hid (OwnD w3 (w.heap.size + 2) q d) := Lib.hid (hown3.rebase (by have := hs1; first | omega | (simp; omega)))
         have Hb3 : Hid (Below w1.heap.size w1 w3) := Lib.hid (show Below w1.heap.size w1 w3 from (by have hbq := hb3; exact (by repeat' (first | with_reducible exact Below.refl _ _ | with_reducible assumption | with_reducible refine below_drewN ?_ _ | with_reducible refine Below.drew ?_ | with_reducible refine Below.alloc ?_ ?_ _ | with_reducible refine Below.setCell ?_ ?_ _ | with_reducible refine Below.trans ?_ (Below.mono (by with_reducible assumption) ?_) | with_reducible refine below_only ?_ (by with_reducible assumption) ?_ ?_ | (simp; done) | (simp; omega) | omega))))
         have hs3 : w1.heap.size ≤ w3.heap.size := Hb3.out.size
         have HB4 : Hid (Below w.heap.size w (w3.alloc (.cells #[.int .i64 d.st, .slice q.a1 d.se.length q.c1, .slice q.a2 d.sd.length q.c2, .slice q.a3 d.sx.length q.c3, .slice q.a4 d.rv.length q.c4] 26))) := Lib.hid ((HB1.out.trans (Hb3.out.mono hs1'')).alloc (Nat.le_trans hs1'' hs3) _)
         have hz4 : (w3.alloc (.cells #[.int .i64 d.st, .slice q.a1 d.se.length q.c1, .slice q.a2 d.sd.length q.c2, .slice q.a3 d.sx.length q.c3, .slice q.a4 d.rv.length q.c4] 26)).heap[w.heap.size + 1]? = some (.cells #[.int .i64 0, .slice none 0 0, .slice none 0 0, .slice none 0 0, .slice none 0 0] 26 (0, 0)) := (Below.heap_alloc _ _ _ (by omega)).trans ((Hb3.out.block _ hs1).trans Hz1.out)
         have ht4 : (w3.alloc (.cells #[.int .i64 d.st, .slice q.a1 d.se.length q.c1, .slice q.a2 d.sd.length q.c2, .slice q.a3 d.sx.length q.c3, .slice q.a4 d.rv.length q.c4] 26)).heap[w3.heap.size]? = some (.cells #[.int .i64 d.st, .slice q.a1 d.se.length q.c1, .slice q.a2 d.sd.length q.c2, .slice q.a3 d.sx.length q.c3, .slice q.a4 d.rv.length q.c4] 26 (0, 0)) := heap_alloc_new w3 _
         have hs4 : w3.heap.size < (w3.alloc (.cells #[.int .i64 d.st, .slice q.a1 d.se.length q.c1, .slice q.a2 d.sd.length q.c2, .slice q.a3 d.sx.length q.c3, .slice q.a4 d.rv.length q.c4] 26)).heap.size := by simp
         have Hown4 : Hid (OwnD (w3.alloc (.cells #[.int .i64 d.st, .slice q.a1 d.se.length q.c1, .slice q.a2 d.sd.length q.c2, .slice q.a3 d.sx.length q.c3, .slice q.a4 d.rv.length q.c4] 26)) (w.heap.size + 2) q d) := Lib.hid (Hown3.out.below (Below.alloc (Below.refl _ _) (Nat.le_refl _) _))
         have Hz4 := Lib.hid hz4
         have Ht4 := Lib.hid ht4
         clear hown3 hb3 hz4 ht4)
      | fail)
    have hz5 := box5 (x := .int .i64 (d.st)) (y := .slice p.a1 d.se.length p.c1) (z := .slice p.a2 d.sd.length p.c2) (u := .slice p.a3 d.sx.length p.c3) (v := .slice p.a4 d.rv.length p.c4) Hz1.out
    have y0 := cell_of_row _ _ 0 _ _ _ hz5
    have y1 := cell_of_row _ _ 1 _ _ _ hz5
    have y2 := cell_of_row _ _ 2 _ _ _ hz5
    have y3 := cell_of_row _ _ 3 _ _ _ hz5
    have y4 := cell_of_row _ _ 4 _ _ _ hz5
    refine bodyPost_ret (v := .tuple #[.agg #[.int .i64 (d.st), .slice p.a1 d.se.length p.c1, .slice p.a2 d.sd.length p.c2, .slice p.a3 d.sx.length p.c3, .slice p.a4 d.rv.length p.c4], .int .i64 22]) (by simp [results, Try.results47, go_sem, *]) rfl ?_
    exact ⟨p, rfl, .inl ⟨rfl, rfl⟩, box5_below HB1.out (by omega)⟩

set_option maxHeartbeats 1000000 in
theorem closeR_any (p : DV) (d : Dr) (w : World) (h : DrAt w p d) (hl : d.small) : Calls Try.prog 21 #[.agg #[.int .i64 d.st, .slice p.a1 d.se.length p.c1, .slice p.a2 d.sd.length p.c2, .slice p.a3 d.sx.length p.c3, .slice p.a4 d.rv.length p.c4]] w (DrRPost w p d (nextD d 1)) := by
  have H := Lib.hid h
  clear h
  obtain ⟨x, hx⟩ : ∃ x, nextD d 1 = x := ⟨_, rfl⟩
  have Hx := Lib.hid hx
  rw [hx]
  obtain ⟨d', er⟩ := x
  clear hx
  go_enter Try.func21, Try.ntmps21
  go_wp2_with (first
    | (go_at_call 47
       refine (nextR_any p d 1 _ (H.out.below (by repeat' (first | with_reducible exact Below.refl _ _ | with_reducible refine below_drewN ?_ _ | with_reducible refine Below.drew ?_ | with_reducible refine Below.alloc ?_ ?_ _ | with_reducible refine Below.setCell ?_ ?_ _ | with_reducible refine Below.trans ?_ (Below.mono (by with_reducible assumption) ?_) | (simp; done) | (simp; omega) | omega))) hl).mono ?_
       rintro e w1 ⟨q, rfl, hown1, hb1⟩
       rw [Hx.out] at hown1 ⊢
       simp only at hown1 ⊢
       have hz1 : w1.heap[w.heap.size + 1]? = some (.cells #[.int .i64 0, .slice none 0 0, .slice none 0 0, .slice none 0 0, .slice none 0 0] 26 (0, 0)) := (hb1.block _ (by first | (simp; done) | (simp; omega))).trans (by have := heap_alloc2_new w (.cells #[.int .i64 d.st, .slice p.a1 d.se.length p.c1, .slice p.a2 d.sd.length p.c2, .slice p.a3 d.sx.length p.c3, .slice p.a4 d.rv.length p.c4] 26) (.cells #[.int .i64 0, .slice none 0 0, .slice none 0 0, .slice none 0 0, .slice none 0 0] 26); exact this)
       have Hb1 : Hid (Below w.heap.size w w1) := Lib.hid (show Below w.heap.size w w1 from (by have hbq := hb1; exact (by repeat' (first | with_reducible exact Below.refl _ _ | with_reducible assumption | with_reducible refine below_drewN ?_ _ | with_reducible refine Below.drew ?_ | with_reducible refine Below.alloc ?_ ?_ _ | with_reducible refine Below.setCell ?_ ?_ _ | with_reducible refine Below.trans ?_ (Below.mono (by with_reducible assumption) ?_) | with_reducible refine below_only ?_ (by with_reducible assumption) ?_ ?_ | (simp; done) | (simp; omega) | omega))))
       have Hown1 : Hid ((q = p ∧ d' = d) ∨ OwnD w1 (w.heap.size + 2) q d') := Lib.hid (hown1.imp id (fun h => h.rebase (by first | (simp; done) | (simp; omega))))
       have hz5 := box5 (x := .int .i64 d'.st) (y := .slice q.a1 d'.se.length q.c1) (z := .slice q.a2 d'.sd.length q.c2) (u := .slice q.a3 d'.sx.length q.c3) (v := .slice q.a4 d'.rv.length q.c4) hz1
       have z10 := cell_of_row w1 (w.heap.size + 1) 0 _ _ _ hz1; have z11 := cell_of_row w1 (w.heap.size + 1) 1 _ _ _ hz1; have z12 := cell_of_row w1 (w.heap.size + 1) 2 _ _ _ hz1; have z13 := cell_of_row w1 (w.heap.size + 1) 3 _ _ _ hz1; have z14 := cell_of_row w1 (w.heap.size + 1) 4 _ _ _ hz1; have g10 := frozen_of_row w1 (w.heap.size + 1) 0 _ _ hz1; have g11 := frozen_of_row w1 (w.heap.size + 1) 1 _ _ hz1; have g12 := frozen_of_row w1 (w.heap.size + 1) 2 _ _ hz1; have g13 := frozen_of_row w1 (w.heap.size + 1) 3 _ _ hz1; have g14 := frozen_of_row w1 (w.heap.size + 1) 4 _ _ hz1;
       clear hown1 hb1 hz1)
    | fail)
  have y0 := cell_of_row _ _ 0 _ _ _ hz5
  have y1 := cell_of_row _ _ 1 _ _ _ hz5
  have y2 := cell_of_row _ _ 2 _ _ _ hz5
  have y3 := cell_of_row _ _ 3 _ _ _ hz5
  have y4 := cell_of_row _ _ 4 _ _ _ hz5
  refine bodyPost_ret (v := .tuple #[.agg #[.int .i64 d'.st, .slice q.a1 d'.se.length q.c1, .slice q.a2 d'.sd.length q.c2, .slice q.a3 d'.sx.length q.c3, .slice q.a4 d'.rv.length q.c4], .int .i64 er]) (by simp [results, Try.results21, go_sem, *]) rfl ?_
  exact ⟨q, rfl, Hown1.out.imp id (fun h => (h.old box5_only (by omega)).rebase (by omega)), box5_below Hb1.out (by omega)⟩

set_option maxHeartbeats 1000000 in
theorem finishR_any (p : DV) (d : Dr) (w : World) (h : DrAt w p d) (hl : d.small) : Calls Try.prog 25 #[.agg #[.int .i64 d.st, .slice p.a1 d.se.length p.c1, .slice p.a2 d.sd.length p.c2, .slice p.a3 d.sx.length p.c3, .slice p.a4 d.rv.length p.c4]] w (DrRPost w p d (nextD d 2)) := by
  have H := Lib.hid h
  clear h
  obtain ⟨x, hx⟩ : ∃ x, nextD d 2 = x := ⟨_, rfl⟩
  have Hx := Lib.hid hx
  rw [hx]
  obtain ⟨d', er⟩ := x
  clear hx
  go_enter Try.func25, Try.ntmps25
  go_wp2_with (first
    | (go_at_call 47
       refine (nextR_any p d 2 _ (H.out.below (by repeat' (first | with_reducible exact Below.refl _ _ | with_reducible refine below_drewN ?_ _ | with_reducible refine Below.drew ?_ | with_reducible refine Below.alloc ?_ ?_ _ | with_reducible refine Below.setCell ?_ ?_ _ | with_reducible refine Below.trans ?_ (Below.mono (by with_reducible assumption) ?_) | (simp; done) | (simp; omega) | omega))) hl).mono ?_
       rintro e w1 ⟨q, rfl, hown1, hb1⟩
       rw [Hx.out] at hown1 ⊢
       simp only at hown1 ⊢
       have hz1 : w1.heap[w.heap.size + 1]? = some (.cells #[.int .i64 0, .slice none 0 0, .slice none 0 0, .slice none 0 0, .slice none 0 0] 26 (0, 0)) := (hb1.block _ (by first | (simp; done) | (simp; omega))).trans (by have := heap_alloc2_new w (.cells #[.int .i64 d.st, .slice p.a1 d.se.length p.c1, .slice p.a2 d.sd.length p.c2, .slice p.a3 d.sx.length p.c3, .slice p.a4 d.rv.length p.c4] 26) (.cells #[.int .i64 0, .slice none 0 0, .slice none 0 0, .slice none 0 0, .slice none 0 0] 26); exact this)
       have Hb1 : Hid (Below w.heap.size w w1) := Lib.hid (show Below w.heap.size w w1 from (by have hbq := hb1; exact (by repeat' (first | with_reducible exact Below.refl _ _ | with_reducible assumption | with_reducible refine below_drewN ?_ _ | with_reducible refine Below.drew ?_ | with_reducible refine Below.alloc ?_ ?_ _ | with_reducible refine Below.setCell ?_ ?_ _ | with_reducible refine Below.trans ?_ (Below.mono (by with_reducible assumption) ?_) | with_reducible refine below_only ?_ (by with_reducible assumption) ?_ ?_ | (simp; done) | (simp; omega) | omega))))
       have Hown1 : Hid ((q = p ∧ d' = d) ∨ OwnD w1 (w.heap.size + 2) q d') := Lib.hid (hown1.imp id (fun h => h.rebase (by first | (simp; done) | (simp; omega))))
       have hz5 := box5 (x := .int .i64 d'.st) (y := .slice q.a1 d'.se.length q.c1) (z := .slice q.a2 d'.sd.length q.c2) (u := .slice q.a3 d'.sx.length q.c3) (v := .slice q.a4 d'.rv.length q.c4) hz1
       have z10 := cell_of_row w1 (w.heap.size + 1) 0 _ _ _ hz1; have z11 := cell_of_row w1 (w.heap.size + 1) 1 _ _ _ hz1; have z12 := cell_of_row w1 (w.heap.size + 1) 2 _ _ _ hz1; have z13 := cell_of_row w1 (w.heap.size + 1) 3 _ _ _ hz1; have z14 := cell_of_row w1 (w.heap.size + 1) 4 _ _ _ hz1; have g10 := frozen_of_row w1 (w.heap.size + 1) 0 _ _ hz1; have g11 := frozen_of_row w1 (w.heap.size + 1) 1 _ _ hz1; have g12 := frozen_of_row w1 (w.heap.size + 1) 2 _ _ hz1; have g13 := frozen_of_row w1 (w.heap.size + 1) 3 _ _ hz1; have g14 := frozen_of_row w1 (w.heap.size + 1) 4 _ _ hz1;
       clear hown1 hb1 hz1)
    | fail)
  have y0 := cell_of_row _ _ 0 _ _ _ hz5
  have y1 := cell_of_row _ _ 1 _ _ _ hz5
  have y2 := cell_of_row _ _ 2 _ _ _ hz5
  have y3 := cell_of_row _ _ 3 _ _ _ hz5
  have y4 := cell_of_row _ _ 4 _ _ _ hz5
  refine bodyPost_ret (v := .tuple #[.agg #[.int .i64 d'.st, .slice q.a1 d'.se.length q.c1, .slice q.a2 d'.sd.length q.c2, .slice q.a3 d'.sx.length q.c3, .slice q.a4 d'.rv.length q.c4], .int .i64 er]) (by simp [results, Try.results25, go_sem, *]) rfl ?_
  exact ⟨q, rfl, Hown1.out.imp id (fun h => (h.old box5_only (by omega)).rebase (by omega)), box5_below Hb1.out (by omega)⟩
end Go.Proofs.Ytbkkmgofjhaaoaa
