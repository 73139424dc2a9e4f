/- Contracts: Reveal (draw). -/
import Derived.Test.YtbkkmgofjhaaoaaD9
namespace Go.Proofs.Ytbkkmgofjhaaoaa
open Go.RowKit
set_option linter.unusedVariables false
set_option linter.unusedSimpArgs false

set_option maxHeartbeats 16000000 in
set_option maxRecDepth 100000 in
theorem reveal_any (p : DV) (d : Dr) (k a b : Int) (w : World) (h : DrAt w p d) (hl : d.small) : Calls Try.prog 22 #[.agg #[.int .i64 d.st, .slice p.a1 d.se.length p.c1, .slice p.a2 d.sd.length p.c2, .slice p.a3 d.sx.length p.c3, .slice p.a4 d.rv.length p.c4], .int .i64 k, .int .u64 a, .int .u64 b] w (DrEPost w (revealD d k a b)) := by
  have H := Lib.hid h
  have Hn : Hid (revealD d k a b = if usableD d 2 = 0 then (if noShow d k then (d, 63) else if sealI k a b = d.se.getD k.toNat 0 then ({ d with sx := d.sx.set k.toNat a, rv := d.rv.set k.toNat true }, 0) else (d, 62)) else (d, usableD d 2)) := Lib.hid rfl
  obtain ⟨u, hu⟩ : ∃ u, usableD d 2 = u := ⟨_, rfl⟩
  have HU := Lib.hid hu
  by_cases h0 : u = 0
  · subst h0
    obtain ⟨x1, x2, x3, x4, x5, x6, x7⟩ := usable_lens hu
    by_cases hk0 : k < 0
    · have e0 : revealD d k a b = (d, 63) := by rw [Hn.out, hu, if_pos rfl, if_pos (by simp [noShow, hk0])]
      rw [e0]
      clear e0 hu Hn h x1 x2 x3 x4 x5 x6 x7
      go_enter Try.func22, Try.ntmps22
      go_wp2_with (first
        | (go_at_call 43
           refine (clone_any p d _ (H.out.below (by repeat' (first | with_reducible exact Below.refl _ _ | with_reducible refine below_drewN ?_ _ | with_reducible refine Below.drew ?_ | with_reducible refine Below.alloc ?_ ?_ _ | with_reducible refine Below.setCell ?_ ?_ _ | with_reducible refine Below.trans ?_ (Below.mono (by with_reducible assumption) ?_) | (simp; done) | (simp; omega) | omega))) hl).mono ?_
           rintro e w1 ⟨q, rfl, hown1, hb1⟩
           have hr1 : w1.heap[w.heap.size]? = some (.cells #[.int .i64 d.st, .slice p.a1 d.se.length p.c1, .slice p.a2 d.sd.length p.c2, .slice p.a3 d.sx.length p.c3, .slice p.a4 d.rv.length p.c4] 26 (0, 0)) := (hb1.block _ (by first | (simp; done) | (simp; omega))).trans ((Below.heap_alloc _ _ _ (by first | (simp; done) | (simp; omega))).trans (heap_alloc_new w _))
           have hz1 : w1.heap[w.heap.size + 1]? = some (.cells #[.int .i64 0, .slice none 0 0, .slice none 0 0, .slice none 0 0, .slice none 0 0] 26 (0, 0)) := (hb1.block _ (by first | (simp; done) | (simp; omega))).trans (by have := heap_alloc2_new w (.cells #[.int .i64 d.st, .slice p.a1 d.se.length p.c1, .slice p.a2 d.sd.length p.c2, .slice p.a3 d.sx.length p.c3, .slice p.a4 d.rv.length p.c4] 26) (.cells #[.int .i64 0, .slice none 0 0, .slice none 0 0, .slice none 0 0, .slice none 0 0] 26); exact this)
           have hs1 : w.heap.size + 1 < w1.heap.size := (by have := hb1.size; simp at this; omega)
           have hs1' : w.heap.size < w1.heap.size := Nat.lt_trans (Nat.lt_succ_self _) hs1
           have hs1'' : w.heap.size ≤ w1.heap.size := Nat.le_of_lt hs1'
           have Hb1 : Hid (Below w.heap.size w w1) := Lib.hid (show Below w.heap.size w w1 from (by have hbq := hb1; exact (by repeat' (first | with_reducible exact Below.refl _ _ | with_reducible assumption | with_reducible refine below_drewN ?_ _ | with_reducible refine Below.drew ?_ | with_reducible refine Below.alloc ?_ ?_ _ | with_reducible refine Below.setCell ?_ ?_ _ | with_reducible refine Below.trans ?_ (Below.mono (by with_reducible assumption) ?_) | with_reducible refine below_only ?_ (by with_reducible assumption) ?_ ?_ | (simp; done) | (simp; omega) | omega))))
           have Hown1 : Hid (OwnD w1 (w.heap.size + 2) q d) := Lib.hid (hown1.rebase (by first | (simp; done) | (simp; omega)))
           have Hr1 := Lib.hid hr1
           have Hz1 := Lib.hid hz1
           have c10 := cell_of_row w1 (w.heap.size) 0 _ _ _ hr1; have c11 := cell_of_row w1 (w.heap.size) 1 _ _ _ hr1; have c12 := cell_of_row w1 (w.heap.size) 2 _ _ _ hr1; have c13 := cell_of_row w1 (w.heap.size) 3 _ _ _ hr1; have c14 := cell_of_row w1 (w.heap.size) 4 _ _ _ hr1;
           clear hown1 hb1 hr1 hz1)
        | (go_at_call 44
           refine (usable_any p d 2 _ (H.out.below (Hb1.out.trans (Below.mono (show Below w1.heap.size w1 _ from (by repeat' (first | with_reducible exact Below.refl _ _ | with_reducible refine below_drewN ?_ _ | with_reducible refine Below.drew ?_ | with_reducible refine Below.alloc ?_ ?_ _ | with_reducible refine Below.setCell ?_ ?_ _ | with_reducible refine Below.trans ?_ (Below.mono (by with_reducible assumption) ?_) | (simp; done) | (simp; omega) | omega))) hs1'')))).mono ?_
           rintro e w3 ⟨rfl, hb3⟩
           rw [HU.out]
           have Hb3 : Hid (Below w1.heap.size w1 w3) := Lib.hid (show Below w1.heap.size w1 w3 from (by have hbq := hb3; exact (by repeat' (first | with_reducible exact Below.refl _ _ | with_reducible assumption | with_reducible refine below_drewN ?_ _ | with_reducible refine Below.drew ?_ | with_reducible refine Below.alloc ?_ ?_ _ | with_reducible refine Below.setCell ?_ ?_ _ | with_reducible refine Below.trans ?_ (Below.mono (by with_reducible assumption) ?_) | with_reducible refine below_only ?_ (by with_reducible assumption) ?_ ?_ | (simp; done) | (simp; omega) | omega))))
           have hr3 : w3.heap[w.heap.size]? = some (.cells #[.int .i64 d.st, .slice p.a1 d.se.length p.c1, .slice p.a2 d.sd.length p.c2, .slice p.a3 d.sx.length p.c3, .slice p.a4 d.rv.length p.c4] 26 (0, 0)) := (Hb3.out.block _ hs1').trans Hr1.out
           have hz3 : w3.heap[w.heap.size + 1]? = some (.cells #[.int .i64 0, .slice none 0 0, .slice none 0 0, .slice none 0 0, .slice none 0 0] 26 (0, 0)) := (Hb3.out.block _ hs1).trans Hz1.out
           have ht3 : w3.heap[w1.heap.size]? = some (.cells #[.int .i64 d.st, .slice q.a1 d.se.length q.c1, .slice q.a2 d.sd.length q.c2, .slice q.a3 d.sx.length q.c3, .slice q.a4 d.rv.length q.c4] 26 (0, 0)) := (hb3.block _ (by first | (simp; done) | (simp; omega))).trans (heap_alloc_new w1 _)
           have Hown3 : Hid (OwnD w3 (w.heap.size + 2) q d) := Lib.hid (Hown1.out.below Hb3.out)
           have hs3 : w1.heap.size < w3.heap.size := (by have := hb3.size; simp at this; omega)
           have Hz3 := Lib.hid hz3
           have Ht3 := Lib.hid ht3
           have HB3 : Hid (Below w.heap.size w w3) := Lib.hid (Hb1.out.trans (Hb3.out.mono hs1''))
           have c30 := cell_of_row w3 (w.heap.size) 0 _ _ _ hr3; have c31 := cell_of_row w3 (w.heap.size) 1 _ _ _ hr3; have c32 := cell_of_row w3 (w.heap.size) 2 _ _ _ hr3; have c33 := cell_of_row w3 (w.heap.size) 3 _ _ _ hr3; have c34 := cell_of_row w3 (w.heap.size) 4 _ _ _ hr3; have t30 := cell_of_row w3 (w1.heap.size) 0 _ _ _ ht3; have t31 := cell_of_row w3 (w1.heap.size) 1 _ _ _ ht3; have t32 := cell_of_row w3 (w1.heap.size) 2 _ _ _ ht3; have t33 := cell_of_row w3 (w1.heap.size) 3 _ _ _ ht3; have t34 := cell_of_row w3 (w1.heap.size) 4 _ _ _ ht3; have z30 := cell_of_row w3 (w.heap.size + 1) 0 _ _ _ hz3; have z31 := cell_of_row w3 (w.heap.size + 1) 1 _ _ _ hz3; have z32 := cell_of_row w3 (w.heap.size + 1) 2 _ _ _ hz3; have z33 := cell_of_row w3 (w.heap.size + 1) 3 _ _ _ hz3; have z34 := cell_of_row w3 (w.heap.size + 1) 4 _ _ _ hz3; have g30 := frozen_of_row w3 (w.heap.size + 1) 0 _ _ hz3; have g31 := frozen_of_row w3 (w.heap.size + 1) 1 _ _ hz3; have g32 := frozen_of_row w3 (w.heap.size + 1) 2 _ _ hz3; have g33 := frozen_of_row w3 (w.heap.size + 1) 3 _ _ hz3; have g34 := frozen_of_row w3 (w.heap.size + 1) 4 _ _ hz3; have u30 := frozen_of_row w3 (w1.heap.size) 0 _ _ ht3; have u31 := frozen_of_row w3 (w1.heap.size) 1 _ _ ht3; have u32 := frozen_of_row w3 (w1.heap.size) 2 _ _ ht3; have u33 := frozen_of_row w3 (w1.heap.size) 3 _ _ ht3; have u34 := frozen_of_row w3 (w1.heap.size) 4 _ _ ht3;
             clear hb3 hr3 hz3 ht3)
        | fail)
      have hz5 := box5 (x := .int .i64 (d.st)) (y := .slice q.a1 d.se.length q.c1) (z := .slice q.a2 d.sd.length q.c2) (u := .slice q.a3 d.sx.length q.c3) (v := .slice q.a4 d.rv.length q.c4) Hz3.out
      have y0 := cell_of_row _ _ 0 _ _ _ hz5
      have y1 := cell_of_row _ _ 1 _ _ _ hz5
      have y2 := cell_of_row _ _ 2 _ _ _ hz5
      have y3 := cell_of_row _ _ 3 _ _ _ hz5
      have y4 := cell_of_row _ _ 4 _ _ _ hz5
      refine bodyPost_ret (v := .tuple #[.agg #[.int .i64 (d.st), .slice q.a1 d.se.length q.c1, .slice q.a2 d.sd.length q.c2, .slice q.a3 d.sx.length q.c3, .slice q.a4 d.rv.length q.c4], .int .i64 63]) (by simp [results, Try.results22, go_sem, *]) rfl ?_
      exact ⟨q, rfl, ((Hown3.out).old box5_only (by omega)).rebase (by omega), box5_below HB3.out (by omega)⟩
    · by_cases hkl : (d.sd.length : Int) ≤ k
      · have e0 : revealD d k a b = (d, 63) := by rw [Hn.out, hu, if_pos rfl, if_pos (by simp [noShow, hkl])]
        rw [e0]
        clear e0 hu Hn h x1 x2 x3 x4 x5 x6 x7
        go_enter Try.func22, Try.ntmps22
        go_wp2_with (first
          | (go_at_call 43
             refine (clone_any p d _ (H.out.below (by repeat' (first | with_reducible exact Below.refl _ _ | with_reducible refine below_drewN ?_ _ | with_reducible refine Below.drew ?_ | with_reducible refine Below.alloc ?_ ?_ _ | with_reducible refine Below.setCell ?_ ?_ _ | with_reducible refine Below.trans ?_ (Below.mono (by with_reducible assumption) ?_) | (simp; done) | (simp; omega) | omega))) hl).mono ?_
             rintro e w1 ⟨q, rfl, hown1, hb1⟩
             have hr1 : w1.heap[w.heap.size]? = some (.cells #[.int .i64 d.st, .slice p.a1 d.se.length p.c1, .slice p.a2 d.sd.length p.c2, .slice p.a3 d.sx.length p.c3, .slice p.a4 d.rv.length p.c4] 26 (0, 0)) := (hb1.block _ (by first | (simp; done) | (simp; omega))).trans ((Below.heap_alloc _ _ _ (by first | (simp; done) | (simp; omega))).trans (heap_alloc_new w _))
             have hz1 : w1.heap[w.heap.size + 1]? = some (.cells #[.int .i64 0, .slice none 0 0, .slice none 0 0, .slice none 0 0, .slice none 0 0] 26 (0, 0)) := (hb1.block _ (by first | (simp; done) | (simp; omega))).trans (by have := heap_alloc2_new w (.cells #[.int .i64 d.st, .slice p.a1 d.se.length p.c1, .slice p.a2 d.sd.length p.c2, .slice p.a3 d.sx.length p.c3, .slice p.a4 d.rv.length p.c4] 26) (.cells #[.int .i64 0, .slice none 0 0, .slice none 0 0, .slice none 0 0, .slice none 0 0] 26); exact this)
             have hs1 : w.heap.size + 1 < w1.heap.size := (by have := hb1.size; simp at this; omega)
             have hs1' : w.heap.size < w1.heap.size := Nat.lt_trans (Nat.lt_succ_self _) hs1
             have hs1'' : w.heap.size ≤ w1.heap.size := Nat.le_of_lt hs1'
             have Hb1 : Hid (Below w.heap.size w w1) := Lib.hid (show Below w.heap.size w w1 from (by have hbq := hb1; exact (by repeat' (first | with_reducible exact Below.refl _ _ | with_reducible assumption | with_reducible refine below_drewN ?_ _ | with_reducible refine Below.drew ?_ | with_reducible refine Below.alloc ?_ ?_ _ | with_reducible refine Below.setCell ?_ ?_ _ | with_reducible refine Below.trans ?_ (Below.mono (by with_reducible assumption) ?_) | with_reducible refine below_only ?_ (by with_reducible assumption) ?_ ?_ | (simp; done) | (simp; omega) | omega))))
             have Hown1 : Hid (OwnD w1 (w.heap.size + 2) q d) := Lib.hid (hown1.rebase (by first | (simp; done) | (simp; omega)))
             have Hr1 := Lib.hid hr1
             have Hz1 := Lib.hid hz1
             have c10 := cell_of_row w1 (w.heap.size) 0 _ _ _ hr1; have c11 := cell_of_row w1 (w.heap.size) 1 _ _ _ hr1; have c12 := cell_of_row w1 (w.heap.size) 2 _ _ _ hr1; have c13 := cell_of_row w1 (w.heap.size) 3 _ _ _ hr1; have c14 := cell_of_row w1 (w.heap.size) 4 _ _ _ hr1;
             clear hown1 hb1 hr1 hz1)
          | (go_at_call 44
             refine (usable_any p d 2 _ (H.out.below (Hb1.out.trans (Below.mono (show Below w1.heap.size w1 _ from (by repeat' (first | with_reducible exact Below.refl _ _ | with_reducible refine below_drewN ?_ _ | with_reducible refine Below.drew ?_ | with_reducible refine Below.alloc ?_ ?_ _ | with_reducible refine Below.setCell ?_ ?_ _ | with_reducible refine Below.trans ?_ (Below.mono (by with_reducible assumption) ?_) | (simp; done) | (simp; omega) | omega))) hs1'')))).mono ?_
             rintro e w3 ⟨rfl, hb3⟩
             rw [HU.out]
             have Hb3 : Hid (Below w1.heap.size w1 w3) := Lib.hid (show Below w1.heap.size w1 w3 from (by have hbq := hb3; exact (by repeat' (first | with_reducible exact Below.refl _ _ | with_reducible assumption | with_reducible refine below_drewN ?_ _ | with_reducible refine Below.drew ?_ | with_reducible refine Below.alloc ?_ ?_ _ | with_reducible refine Below.setCell ?_ ?_ _ | with_reducible refine Below.trans ?_ (Below.mono (by with_reducible assumption) ?_) | with_reducible refine below_only ?_ (by with_reducible assumption) ?_ ?_ | (simp; done) | (simp; omega) | omega))))
             have hr3 : w3.heap[w.heap.size]? = some (.cells #[.int .i64 d.st, .slice p.a1 d.se.length p.c1, .slice p.a2 d.sd.length p.c2, .slice p.a3 d.sx.length p.c3, .slice p.a4 d.rv.length p.c4] 26 (0, 0)) := (Hb3.out.block _ hs1').trans Hr1.out
             have hz3 : w3.heap[w.heap.size + 1]? = some (.cells #[.int .i64 0, .slice none 0 0, .slice none 0 0, .slice none 0 0, .slice none 0 0] 26 (0, 0)) := (Hb3.out.block _ hs1).trans Hz1.out
             have ht3 : w3.heap[w1.heap.size]? = some (.cells #[.int .i64 d.st, .slice q.a1 d.se.length q.c1, .slice q.a2 d.sd.length q.c2, .slice q.a3 d.sx.length q.c3, .slice q.a4 d.rv.length q.c4] 26 (0, 0)) := (hb3.block _ (by first | (simp; done) | (simp; omega))).trans (heap_alloc_new w1 _)
             have Hown3 : Hid (OwnD w3 (w.heap.size + 2) q d) := Lib.hid (Hown1.out.below Hb3.out)
             have hs3 : w1.heap.size < w3.heap.size := (by have := hb3.size; simp at this; omega)
             have Hz3 := Lib.hid hz3
             have Ht3 := Lib.hid ht3
             have HB3 : Hid (Below w.heap.size w w3) := Lib.hid (Hb1.out.trans (Hb3.out.mono hs1''))
             have c30 := cell_of_row w3 (w.heap.size) 0 _ _ _ hr3; have c31 := cell_of_row w3 (w.heap.size) 1 _ _ _ hr3; have c32 := cell_of_row w3 (w.heap.size) 2 _ _ _ hr3; have c33 := cell_of_row w3 (w.heap.size) 3 _ _ _ hr3; have c34 := cell_of_row w3 (w.heap.size) 4 _ _ _ hr3; have t30 := cell_of_row w3 (w1.heap.size) 0 _ _ _ ht3; have t31 := cell_of_row w3 (w1.heap.size) 1 _ _ _ ht3; have t32 := cell_of_row w3 (w1.heap.size) 2 _ _ _ ht3; have t33 := cell_of_row w3 (w1.heap.size) 3 _ _ _ ht3; have t34 := cell_of_row w3 (w1.heap.size) 4 _ _ _ ht3; have z30 := cell_of_row w3 (w.heap.size + 1) 0 _ _ _ hz3; have z31 := cell_of_row w3 (w.heap.size + 1) 1 _ _ _ hz3; have z32 := cell_of_row w3 (w.heap.size + 1) 2 _ _ _ hz3; have z33 := cell_of_row w3 (w.heap.size + 1) 3 _ _ _ hz3; have z34 := cell_of_row w3 (w.heap.size + 1) 4 _ _ _ hz3; have g30 := frozen_of_row w3 (w.heap.size + 1) 0 _ _ hz3; have g31 := frozen_of_row w3 (w.heap.size + 1) 1 _ _ hz3; have g32 := frozen_of_row w3 (w.heap.size + 1) 2 _ _ hz3; have g33 := frozen_of_row w3 (w.heap.size + 1) 3 _ _ hz3; have g34 := frozen_of_row w3 (w.heap.size + 1) 4 _ _ hz3; have u30 := frozen_of_row w3 (w1.heap.size) 0 _ _ ht3; have u31 := frozen_of_row w3 (w1.heap.size) 1 _ _ ht3; have u32 := frozen_of_row w3 (w1.heap.size) 2 _ _ ht3; have u33 := frozen_of_row w3 (w1.heap.size) 3 _ _ ht3; have u34 := frozen_of_row w3 (w1.heap.size) 4 _ _ ht3;
               clear hb3 hr3 hz3 ht3)
          | fail)
        have hz5 := box5 (x := .int .i64 (d.st)) (y := .slice q.a1 d.se.length q.c1) (z := .slice q.a2 d.sd.length q.c2) (u := .slice q.a3 d.sx.length q.c3) (v := .slice q.a4 d.rv.length q.c4) Hz3.out
        have y0 := cell_of_row _ _ 0 _ _ _ hz5
        have y1 := cell_of_row _ _ 1 _ _ _ hz5
        have y2 := cell_of_row _ _ 2 _ _ _ hz5
        have y3 := cell_of_row _ _ 3 _ _ _ hz5
        have y4 := cell_of_row _ _ 4 _ _ _ hz5
        refine bodyPost_ret (v := .tuple #[.agg #[.int .i64 (d.st), .slice q.a1 d.se.length q.c1, .slice q.a2 d.sd.length q.c2, .slice q.a3 d.sx.length q.c3, .slice q.a4 d.rv.length q.c4], .int .i64 63]) (by simp [results, Try.results22, go_sem, *]) rfl ?_
        exact ⟨q, rfl, ((Hown3.out).old box5_only (by omega)).rebase (by omega), box5_below HB3.out (by omega)⟩
      · obtain ⟨n, rfl⟩ := Int.eq_ofNat_of_zero_le (show 0 ≤ k by omega)
        have hn2 : n < d.sd.length := by omega
        have hn4 : n < d.rv.length := by omega
        have hn1 : n < d.se.length := by omega
        have hn3 : n < d.sx.length := by omega
        obtain ⟨b2, o2, e2, hb2, cs2⟩ := h.s2.at n hn2
        obtain ⟨b4, o4, e4, hb4, cs4⟩ := h.s4.at n hn4
        obtain ⟨b1, o1, e1, hb1, cs1⟩ := h.s1.at n hn1
        have He2 := Lib.hid e2
        have He4 := Lib.hid e4
        have He1 := Lib.hid e1
        have Hcs2 := Lib.hid cs2
        have Hcs4 := Lib.hid cs4
        have Hcs1 := Lib.hid cs1
        have hkl2 : (n : Int) < (d.sd.length : Int) := by omega
        have hkl4 : (n : Int) < (d.rv.length : Int) := by omega
        have hkl1 : (n : Int) < (d.se.length : Int) := by omega
        have hkl3 : (n : Int) < (d.sx.length : Int) := by omega
        have hk00 : (0 : Int) ≤ (n : Int) := by omega
        have hkn2 : ¬ (d.sd.length : Int) ≤ (n : Int) := by omega
        have hkm2 : ¬ d.sd.length ≤ n := by omega
        have hg : noShow d (n : Int) = (!d.sd[n] || d.rv[n]) := by
          have a1 : ¬ (n : Int) < 0 := by omega
          have a2 : ¬ (d.sd.length : Int) ≤ (n : Int) := by omega
          unfold noShow
          rw [decide_eq_false a1, decide_eq_false a2]
          simp [List.getD_eq_getElem?_getD, hn2, hn4]
        have hge : d.se.getD (n : Int).toNat 0 = d.se[n] := by simp [List.getD_eq_getElem?_getD, hn1]
        by_cases hbad : d.sd[n] = false ∨ d.rv[n] = true
        · have e0 : revealD d n a b = (d, 63) := by rw [Hn.out, hu, if_pos rfl, hg, if_pos (by rcases hbad with h | h <;> simp [h])]
          rw [e0]
          clear e0 hu Hn h x1 x2 x3 x4 x5 x6 x7 hg cs2 e2 cs4 e4 cs1 e1 hk0 hkl hge
          cases hsd : d.sd[n] with
          | false =>
            rw [hsd] at Hcs2
            clear hbad hsd
            go_enter Try.func22, Try.ntmps22
            go_wp2_with (first
              | (go_at_call 43
                 refine (clone_any p d _ (H.out.below (by repeat' (first | with_reducible exact Below.refl _ _ | with_reducible refine below_drewN ?_ _ | with_reducible refine Below.drew ?_ | with_reducible refine Below.alloc ?_ ?_ _ | with_reducible refine Below.setCell ?_ ?_ _ | with_reducible refine Below.trans ?_ (Below.mono (by with_reducible assumption) ?_) | (simp; done) | (simp; omega) | omega))) hl).mono ?_
                 rintro e w1 ⟨q, rfl, hown1, hb1⟩
                 have hr1 : w1.heap[w.heap.size]? = some (.cells #[.int .i64 d.st, .slice p.a1 d.se.length p.c1, .slice p.a2 d.sd.length p.c2, .slice p.a3 d.sx.length p.c3, .slice p.a4 d.rv.length p.c4] 26 (0, 0)) := (hb1.block _ (by first | (simp; done) | (simp; omega))).trans ((Below.heap_alloc _ _ _ (by first | (simp; done) | (simp; omega))).trans (heap_alloc_new w _))
                 have hz1 : w1.heap[w.heap.size + 1]? = some (.cells #[.int .i64 0, .slice none 0 0, .slice none 0 0, .slice none 0 0, .slice none 0 0] 26 (0, 0)) := (hb1.block _ (by first | (simp; done) | (simp; omega))).trans (by have := heap_alloc2_new w (.cells #[.int .i64 d.st, .slice p.a1 d.se.length p.c1, .slice p.a2 d.sd.length p.c2, .slice p.a3 d.sx.length p.c3, .slice p.a4 d.rv.length p.c4] 26) (.cells #[.int .i64 0, .slice none 0 0, .slice none 0 0, .slice none 0 0, .slice none 0 0] 26); exact this)
                 have hs1 : w.heap.size + 1 < w1.heap.size := (by have := hb1.size; simp at this; omega)
                 have hs1' : w.heap.size < w1.heap.size := Nat.lt_trans (Nat.lt_succ_self _) hs1
                 have hs1'' : w.heap.size ≤ w1.heap.size := Nat.le_of_lt hs1'
                 have Hb1 : Hid (Below w.heap.size w w1) := Lib.hid (show Below w.heap.size w w1 from (by have hbq := hb1; exact (by repeat' (first | with_reducible exact Below.refl _ _ | with_reducible assumption | with_reducible refine below_drewN ?_ _ | with_reducible refine Below.drew ?_ | with_reducible refine Below.alloc ?_ ?_ _ | with_reducible refine Below.setCell ?_ ?_ _ | with_reducible refine Below.trans ?_ (Below.mono (by with_reducible assumption) ?_) | with_reducible refine below_only ?_ (by with_reducible assumption) ?_ ?_ | (simp; done) | (simp; omega) | omega))))
                 have Hown1 : Hid (OwnD w1 (w.heap.size + 2) q d) := Lib.hid (hown1.rebase (by first | (simp; done) | (simp; omega)))
                 have Hr1 := Lib.hid hr1
                 have Hz1 := Lib.hid hz1
                 have c10 := cell_of_row w1 (w.heap.size) 0 _ _ _ hr1; have c11 := cell_of_row w1 (w.heap.size) 1 _ _ _ hr1; have c12 := cell_of_row w1 (w.heap.size) 2 _ _ _ hr1; have c13 := cell_of_row w1 (w.heap.size) 3 _ _ _ hr1; have c14 := cell_of_row w1 (w.heap.size) 4 _ _ _ hr1;
                 clear hown1 hb1 hr1 hz1)
              | (go_at_call 44
                 refine (usable_any p d 2 _ (H.out.below (Hb1.out.trans (Below.mono (show Below w1.heap.size w1 _ from (by repeat' (first | with_reducible exact Below.refl _ _ | with_reducible refine below_drewN ?_ _ | with_reducible refine Below.drew ?_ | with_reducible refine Below.alloc ?_ ?_ _ | with_reducible refine Below.setCell ?_ ?_ _ | with_reducible refine Below.trans ?_ (Below.mono (by with_reducible assumption) ?_) | (simp; done) | (simp; omega) | omega))) hs1'')))).mono ?_
                 rintro e w3 ⟨rfl, hb3⟩
                 rw [HU.out]
                 have Hb3 : Hid (Below w1.heap.size w1 w3) := Lib.hid (show Below w1.heap.size w1 w3 from (by have hbq := hb3; exact (by repeat' (first | with_reducible exact Below.refl _ _ | with_reducible assumption | with_reducible refine below_drewN ?_ _ | with_reducible refine Below.drew ?_ | with_reducible refine Below.alloc ?_ ?_ _ | with_reducible refine Below.setCell ?_ ?_ _ | with_reducible refine Below.trans ?_ (Below.mono (by with_reducible assumption) ?_) | with_reducible refine below_only ?_ (by with_reducible assumption) ?_ ?_ | (simp; done) | (simp; omega) | omega))))
                 have hr3 : w3.heap[w.heap.size]? = some (.cells #[.int .i64 d.st, .slice p.a1 d.se.length p.c1, .slice p.a2 d.sd.length p.c2, .slice p.a3 d.sx.length p.c3, .slice p.a4 d.rv.length p.c4] 26 (0, 0)) := (Hb3.out.block _ hs1').trans Hr1.out
                 have hz3 : w3.heap[w.heap.size + 1]? = some (.cells #[.int .i64 0, .slice none 0 0, .slice none 0 0, .slice none 0 0, .slice none 0 0] 26 (0, 0)) := (Hb3.out.block _ hs1).trans Hz1.out
                 have ht3 : w3.heap[w1.heap.size]? = some (.cells #[.int .i64 d.st, .slice q.a1 d.se.length q.c1, .slice q.a2 d.sd.length q.c2, .slice q.a3 d.sx.length q.c3, .slice q.a4 d.rv.length q.c4] 26 (0, 0)) := (hb3.block _ (by first | (simp; done) | (simp; omega))).trans (heap_alloc_new w1 _)
                 have Hown3 : Hid (OwnD w3 (w.heap.size + 2) q d) := Lib.hid (Hown1.out.below Hb3.out)
                 have hs3 : w1.heap.size < w3.heap.size := (by have := hb3.size; simp at this; omega)
                 have Hz3 := Lib.hid hz3
                 have Ht3 := Lib.hid ht3
                 have HB3 : Hid (Below w.heap.size w w3) := Lib.hid (Hb1.out.trans (Hb3.out.mono hs1''))
                 have c30 := cell_of_row w3 (w.heap.size) 0 _ _ _ hr3; have c31 := cell_of_row w3 (w.heap.size) 1 _ _ _ hr3; have c32 := cell_of_row w3 (w.heap.size) 2 _ _ _ hr3; have c33 := cell_of_row w3 (w.heap.size) 3 _ _ _ hr3; have c34 := cell_of_row w3 (w.heap.size) 4 _ _ _ hr3; have t30 := cell_of_row w3 (w1.heap.size) 0 _ _ _ ht3; have t31 := cell_of_row w3 (w1.heap.size) 1 _ _ _ ht3; have t32 := cell_of_row w3 (w1.heap.size) 2 _ _ _ ht3; have t33 := cell_of_row w3 (w1.heap.size) 3 _ _ _ ht3; have t34 := cell_of_row w3 (w1.heap.size) 4 _ _ _ ht3; have z30 := cell_of_row w3 (w.heap.size + 1) 0 _ _ _ hz3; have z31 := cell_of_row w3 (w.heap.size + 1) 1 _ _ _ hz3; have z32 := cell_of_row w3 (w.heap.size + 1) 2 _ _ _ hz3; have z33 := cell_of_row w3 (w.heap.size + 1) 3 _ _ _ hz3; have z34 := cell_of_row w3 (w.heap.size + 1) 4 _ _ _ hz3; have g30 := frozen_of_row w3 (w.heap.size + 1) 0 _ _ hz3; have g31 := frozen_of_row w3 (w.heap.size + 1) 1 _ _ hz3; have g32 := frozen_of_row w3 (w.heap.size + 1) 2 _ _ hz3; have g33 := frozen_of_row w3 (w.heap.size + 1) 3 _ _ hz3; have g34 := frozen_of_row w3 (w.heap.size + 1) 4 _ _ hz3; have u30 := frozen_of_row w3 (w1.heap.size) 0 _ _ ht3; have u31 := frozen_of_row w3 (w1.heap.size) 1 _ _ ht3; have u32 := frozen_of_row w3 (w1.heap.size) 2 _ _ ht3; have u33 := frozen_of_row w3 (w1.heap.size) 3 _ _ ht3; have u34 := frozen_of_row w3 (w1.heap.size) 4 _ _ ht3;
                 rw [He2.out] at c32
                 have cs3 := (HB3.out.cell (p := ⟨b2, o2 + n, none⟩) hb2).trans Hcs2.out
                 rw [He4.out] at c34
                 have cs5 := (HB3.out.cell (p := ⟨b4, o4 + n, none⟩) hb4).trans Hcs4.out
                 clear hb3 hr3 hz3 ht3)
              | fail)
            have hz5 := box5 (x := .int .i64 (d.st)) (y := .slice q.a1 d.se.length q.c1) (z := .slice q.a2 d.sd.length q.c2) (u := .slice q.a3 d.sx.length q.c3) (v := .slice q.a4 d.rv.length q.c4) Hz3.out
            have y0 := cell_of_row _ _ 0 _ _ _ hz5
            have y1 := cell_of_row _ _ 1 _ _ _ hz5
            have y2 := cell_of_row _ _ 2 _ _ _ hz5
            have y3 := cell_of_row _ _ 3 _ _ _ hz5
            have y4 := cell_of_row _ _ 4 _ _ _ hz5
            refine bodyPost_ret (v := .tuple #[.agg #[.int .i64 (d.st), .slice q.a1 d.se.length q.c1, .slice q.a2 d.sd.length q.c2, .slice q.a3 d.sx.length q.c3, .slice q.a4 d.rv.length q.c4], .int .i64 63]) (by simp [results, Try.results22, go_sem, *]) rfl ?_
            exact ⟨q, rfl, ((Hown3.out).old box5_only (by omega)).rebase (by omega), box5_below HB3.out (by omega)⟩
          | true =>
            have hrv : d.rv[n] = true := by rcases hbad with h | h; rw [hsd] at h; cases h; exact h
            rw [hsd] at Hcs2
            rw [hrv] at Hcs4
            clear hbad hsd hrv
            go_enter Try.func22, Try.ntmps22
            go_wp2_with (first
              | (go_at_call 43
                 refine (clone_any p d _ (H.out.below (by repeat' (first | with_reducible exact Below.refl _ _ | with_reducible refine below_drewN ?_ _ | with_reducible refine Below.drew ?_ | with_reducible refine Below.alloc ?_ ?_ _ | with_reducible refine Below.setCell ?_ ?_ _ | with_reducible refine Below.trans ?_ (Below.mono (by with_reducible assumption) ?_) | (simp; done) | (simp; omega) | omega))) hl).mono ?_
                 rintro e w1 ⟨q, rfl, hown1, hb1⟩
                 have hr1 : w1.heap[w.heap.size]? = some (.cells #[.int .i64 d.st, .slice p.a1 d.se.length p.c1, .slice p.a2 d.sd.length p.c2, .slice p.a3 d.sx.length p.c3, .slice p.a4 d.rv.length p.c4] 26 (0, 0)) := (hb1.block _ (by first | (simp; done) | (simp; omega))).trans ((Below.heap_alloc _ _ _ (by first | (simp; done) | (simp; omega))).trans (heap_alloc_new w _))
                 have hz1 : w1.heap[w.heap.size + 1]? = some (.cells #[.int .i64 0, .slice none 0 0, .slice none 0 0, .slice none 0 0, .slice none 0 0] 26 (0, 0)) := (hb1.block _ (by first | (simp; done) | (simp; omega))).trans (by have := heap_alloc2_new w (.cells #[.int .i64 d.st, .slice p.a1 d.se.length p.c1, .slice p.a2 d.sd.length p.c2, .slice p.a3 d.sx.length p.c3, .slice p.a4 d.rv.length p.c4] 26) (.cells #[.int .i64 0, .slice none 0 0, .slice none 0 0, .slice none 0 0, .slice none 0 0] 26); exact this)
                 have hs1 : w.heap.size + 1 < w1.heap.size := (by have := hb1.size; simp at this; omega)
                 have hs1' : w.heap.size < w1.heap.size := Nat.lt_trans (Nat.lt_succ_self _) hs1
                 have hs1'' : w.heap.size ≤ w1.heap.size := Nat.le_of_lt hs1'
                 have Hb1 : Hid (Below w.heap.size w w1) := Lib.hid (show Below w.heap.size w w1 from (by have hbq := hb1; exact (by repeat' (first | with_reducible exact Below.refl _ _ | with_reducible assumption | with_reducible refine below_drewN ?_ _ | with_reducible refine Below.drew ?_ | with_reducible refine Below.alloc ?_ ?_ _ | with_reducible refine Below.setCell ?_ ?_ _ | with_reducible refine Below.trans ?_ (Below.mono (by with_reducible assumption) ?_) | with_reducible refine below_only ?_ (by with_reducible assumption) ?_ ?_ | (simp; done) | (simp; omega) | omega))))
                 have Hown1 : Hid (OwnD w1 (w.heap.size + 2) q d) := Lib.hid (hown1.rebase (by first | (simp; done) | (simp; omega)))
                 have Hr1 := Lib.hid hr1
                 have Hz1 := Lib.hid hz1
                 have c10 := cell_of_row w1 (w.heap.size) 0 _ _ _ hr1; have c11 := cell_of_row w1 (w.heap.size) 1 _ _ _ hr1; have c12 := cell_of_row w1 (w.heap.size) 2 _ _ _ hr1; have c13 := cell_of_row w1 (w.heap.size) 3 _ _ _ hr1; have c14 := cell_of_row w1 (w.heap.size) 4 _ _ _ hr1;
                 clear hown1 hb1 hr1 hz1)
              | (go_at_call 44
                 refine (usable_any p d 2 _ (H.out.below (Hb1.out.trans (Below.mono (show Below w1.heap.size w1 _ from (by repeat' (first | with_reducible exact Below.refl _ _ | with_reducible refine below_drewN ?_ _ | with_reducible refine Below.drew ?_ | with_reducible refine Below.alloc ?_ ?_ _ | with_reducible refine Below.setCell ?_ ?_ _ | with_reducible refine Below.trans ?_ (Below.mono (by with_reducible assumption) ?_) | (simp; done) | (simp; omega) | omega))) hs1'')))).mono ?_
                 rintro e w3 ⟨rfl, hb3⟩
                 rw [HU.out]
                 have Hb3 : Hid (Below w1.heap.size w1 w3) := Lib.hid (show Below w1.heap.size w1 w3 from (by have hbq := hb3; exact (by repeat' (first | with_reducible exact Below.refl _ _ | with_reducible assumption | with_reducible refine below_drewN ?_ _ | with_reducible refine Below.drew ?_ | with_reducible refine Below.alloc ?_ ?_ _ | with_reducible refine Below.setCell ?_ ?_ _ | with_reducible refine Below.trans ?_ (Below.mono (by with_reducible assumption) ?_) | with_reducible refine below_only ?_ (by with_reducible assumption) ?_ ?_ | (simp; done) | (simp; omega) | omega))))
                 have hr3 : w3.heap[w.heap.size]? = some (.cells #[.int .i64 d.st, .slice p.a1 d.se.length p.c1, .slice p.a2 d.sd.length p.c2, .slice p.a3 d.sx.length p.c3, .slice p.a4 d.rv.length p.c4] 26 (0, 0)) := (Hb3.out.block _ hs1').trans Hr1.out
                 have hz3 : w3.heap[w.heap.size + 1]? = some (.cells #[.int .i64 0, .slice none 0 0, .slice none 0 0, .slice none 0 0, .slice none 0 0] 26 (0, 0)) := (Hb3.out.block _ hs1).trans Hz1.out
                 have ht3 : w3.heap[w1.heap.size]? = some (.cells #[.int .i64 d.st, .slice q.a1 d.se.length q.c1, .slice q.a2 d.sd.length q.c2, .slice q.a3 d.sx.length q.c3, .slice q.a4 d.rv.length q.c4] 26 (0, 0)) := (hb3.block _ (by first | (simp; done) | (simp; omega))).trans (heap_alloc_new w1 _)
                 have Hown3 : Hid (OwnD w3 (w.heap.size + 2) q d) := Lib.hid (Hown1.out.below Hb3.out)
                 have hs3 : w1.heap.size < w3.heap.size := (by have := hb3.size; simp at this; omega)
                 have Hz3 := Lib.hid hz3
                 have Ht3 := Lib.hid ht3
                 have HB3 : Hid (Below w.heap.size w w3) := Lib.hid (Hb1.out.trans (Hb3.out.mono hs1''))
                 have c30 := cell_of_row w3 (w.heap.size) 0 _ _ _ hr3; have c31 := cell_of_row w3 (w.heap.size) 1 _ _ _ hr3; have c32 := cell_of_row w3 (w.heap.size) 2 _ _ _ hr3; have c33 := cell_of_row w3 (w.heap.size) 3 _ _ _ hr3; have c34 := cell_of_row w3 (w.heap.size) 4 _ _ _ hr3; have t30 := cell_of_row w3 (w1.heap.size) 0 _ _ _ ht3; have t31 := cell_of_row w3 (w1.heap.size) 1 _ _ _ ht3; have t32 := cell_of_row w3 (w1.heap.size) 2 _ _ _ ht3; have t33 := cell_of_row w3 (w1.heap.size) 3 _ _ _ ht3; have t34 := cell_of_row w3 (w1.heap.size) 4 _ _ _ ht3; have z30 := cell_of_row w3 (w.heap.size + 1) 0 _ _ _ hz3; have z31 := cell_of_row w3 (w.heap.size + 1) 1 _ _ _ hz3; have z32 := cell_of_row w3 (w.heap.size + 1) 2 _ _ _ hz3; have z33 := cell_of_row w3 (w.heap.size + 1) 3 _ _ _ hz3; have z34 := cell_of_row w3 (w.heap.size + 1) 4 _ _ _ hz3; have g30 := frozen_of_row w3 (w.heap.size + 1) 0 _ _ hz3; have g31 := frozen_of_row w3 (w.heap.size + 1) 1 _ _ hz3; have g32 := frozen_of_row w3 (w.heap.size + 1) 2 _ _ hz3; have g33 := frozen_of_row w3 (w.heap.size + 1) 3 _ _ hz3; have g34 := frozen_of_row w3 (w.heap.size + 1) 4 _ _ hz3; have u30 := frozen_of_row w3 (w1.heap.size) 0 _ _ ht3; have u31 := frozen_of_row w3 (w1.heap.size) 1 _ _ ht3; have u32 := frozen_of_row w3 (w1.heap.size) 2 _ _ ht3; have u33 := frozen_of_row w3 (w1.heap.size) 3 _ _ ht3; have u34 := frozen_of_row w3 (w1.heap.size) 4 _ _ ht3;
                 rw [He2.out] at c32
                 have cs3 := (HB3.out.cell (p := ⟨b2, o2 + n, none⟩) hb2).trans Hcs2.out
                 rw [He4.out] at c34
                 have cs5 := (HB3.out.cell (p := ⟨b4, o4 + n, none⟩) hb4).trans Hcs4.out
                 clear hb3 hr3 hz3 ht3)
              | fail)
            have hz5 := box5 (x := .int .i64 (d.st)) (y := .slice q.a1 d.se.length q.c1) (z := .slice q.a2 d.sd.length q.c2) (u := .slice q.a3 d.sx.length q.c3) (v := .slice q.a4 d.rv.length q.c4) Hz3.out
            have y0 := cell_of_row _ _ 0 _ _ _ hz5
            have y1 := cell_of_row _ _ 1 _ _ _ hz5
            have y2 := cell_of_row _ _ 2 _ _ _ hz5
            have y3 := cell_of_row _ _ 3 _ _ _ hz5
            have y4 := cell_of_row _ _ 4 _ _ _ hz5
            refine bodyPost_ret (v := .tuple #[.agg #[.int .i64 (d.st), .slice q.a1 d.se.length q.c1, .slice q.a2 d.sd.length q.c2, .slice q.a3 d.sx.length q.c3, .slice q.a4 d.rv.length q.c4], .int .i64 63]) (by simp [results, Try.results22, go_sem, *]) rfl ?_
            exact ⟨q, rfl, ((Hown3.out).old box5_only (by omega)).rebase (by omega), box5_below HB3.out (by omega)⟩
        · have hsd : d.sd[n] = true := by cases h : d.sd[n] with | true => rfl | false => exact absurd (.inl h) hbad
          have hrv : d.rv[n] = false := by cases h : d.rv[n] with | false => rfl | true => exact absurd (.inr h) hbad
          have e0 : revealD d n a b = if sealI n a b = d.se[n] then ({ d with sx := d.sx.set n a, rv := d.rv.set n true }, 0) else (d, 62) := by rw [Hn.out, hu, if_pos rfl, hg, hsd, hrv, if_neg (by simp), hge]; rfl
          rw [e0]
          have m3 : (d.sx.map (Value.int .u64))[n]? = some (.int .u64 d.sx[n]) := by simp [hn3]
          have m4 : (d.rv.map Value.bool)[n]? = some (.bool false) := by simp [hn4, hrv]
          have M3 := Lib.hid m3
          have M4 := Lib.hid m4
          rw [hsd] at Hcs2
          rw [hrv] at Hcs4
          have HS := Lib.hid (fun W => seal_any (n : Int) a b W)
          generalize sealI (n : Int) a b = sl at *
          generalize d.se[n] = sv at *
          clear e0 hu Hn h x1 x2 x3 x4 x5 x6 x7 hg cs2 e2 cs4 e4 cs1 e1 hk0 hkl hge hbad hsd hrv m3 m4
          by_cases hsl : sl = sv
          · subst hsl
            rw [if_pos rfl]
            go_enter Try.func22, Try.ntmps22
            go_wp2_with (first
              | (go_at_call 43
                 refine (clone_any p d _ (H.out.below (by repeat' (first | with_reducible exact Below.refl _ _ | with_reducible refine below_drewN ?_ _ | with_reducible refine Below.drew ?_ | with_reducible refine Below.alloc ?_ ?_ _ | with_reducible refine Below.setCell ?_ ?_ _ | with_reducible refine Below.trans ?_ (Below.mono (by with_reducible assumption) ?_) | (simp; done) | (simp; omega) | omega))) hl).mono ?_
                 rintro e w1 ⟨q, rfl, hown1, hb1⟩
                 have hr1 : w1.heap[w.heap.size]? = some (.cells #[.int .i64 d.st, .slice p.a1 d.se.length p.c1, .slice p.a2 d.sd.length p.c2, .slice p.a3 d.sx.length p.c3, .slice p.a4 d.rv.length p.c4] 26 (0, 0)) := (hb1.block _ (by first | (simp; done) | (simp; omega))).trans ((Below.heap_alloc _ _ _ (by first | (simp; done) | (simp; omega))).trans (heap_alloc_new w _))
                 have hz1 : w1.heap[w.heap.size + 1]? = some (.cells #[.int .i64 0, .slice none 0 0, .slice none 0 0, .slice none 0 0, .slice none 0 0] 26 (0, 0)) := (hb1.block _ (by first | (simp; done) | (simp; omega))).trans (by have := heap_alloc2_new w (.cells #[.int .i64 d.st, .slice p.a1 d.se.length p.c1, .slice p.a2 d.sd.length p.c2, .slice p.a3 d.sx.length p.c3, .slice p.a4 d.rv.length p.c4] 26) (.cells #[.int .i64 0, .slice none 0 0, .slice none 0 0, .slice none 0 0, .slice none 0 0] 26); exact this)
                 have hs1 : w.heap.size + 1 < w1.heap.size := (by have := hb1.size; simp at this; omega)
                 have hs1' : w.heap.size < w1.heap.size := Nat.lt_trans (Nat.lt_succ_self _) hs1
                 have hs1'' : w.heap.size ≤ w1.heap.size := Nat.le_of_lt hs1'
                 have Hb1 : Hid (Below w.heap.size w w1) := Lib.hid (show Below w.heap.size w w1 from (by have hbq := hb1; exact (by repeat' (first | with_reducible exact Below.refl _ _ | with_reducible assumption | with_reducible refine below_drewN ?_ _ | with_reducible refine Below.drew ?_ | with_reducible refine Below.alloc ?_ ?_ _ | with_reducible refine Below.setCell ?_ ?_ _ | with_reducible refine Below.trans ?_ (Below.mono (by with_reducible assumption) ?_) | with_reducible refine below_only ?_ (by with_reducible assumption) ?_ ?_ | (simp; done) | (simp; omega) | omega))))
                 have Hown1 : Hid (OwnD w1 (w.heap.size + 2) q d) := Lib.hid (hown1.rebase (by first | (simp; done) | (simp; omega)))
                 have Hr1 := Lib.hid hr1
                 have Hz1 := Lib.hid hz1
                 have c10 := cell_of_row w1 (w.heap.size) 0 _ _ _ hr1; have c11 := cell_of_row w1 (w.heap.size) 1 _ _ _ hr1; have c12 := cell_of_row w1 (w.heap.size) 2 _ _ _ hr1; have c13 := cell_of_row w1 (w.heap.size) 3 _ _ _ hr1; have c14 := cell_of_row w1 (w.heap.size) 4 _ _ _ hr1;
                 clear hown1 hb1 hr1 hz1)
              | (go_at_call 44
                 refine (usable_any p d 2 _ (H.out.below (Hb1.out.trans (Below.mono (show Below w1.heap.size w1 _ from (by repeat' (first | with_reducible exact Below.refl _ _ | with_reducible refine below_drewN ?_ _ | with_reducible refine Below.drew ?_ | with_reducible refine Below.alloc ?_ ?_ _ | with_reducible refine Below.setCell ?_ ?_ _ | with_reducible refine Below.trans ?_ (Below.mono (by with_reducible assumption) ?_) | (simp; done) | (simp; omega) | omega))) hs1'')))).mono ?_
                 rintro e w3 ⟨rfl, hb3⟩
                 rw [HU.out]
                 have Hb3 : Hid (Below w1.heap.size w1 w3) := Lib.hid (show Below w1.heap.size w1 w3 from (by have hbq := hb3; exact (by repeat' (first | with_reducible exact Below.refl _ _ | with_reducible assumption | with_reducible refine below_drewN ?_ _ | with_reducible refine Below.drew ?_ | with_reducible refine Below.alloc ?_ ?_ _ | with_reducible refine Below.setCell ?_ ?_ _ | with_reducible refine Below.trans ?_ (Below.mono (by with_reducible assumption) ?_) | with_reducible refine below_only ?_ (by with_reducible assumption) ?_ ?_ | (simp; done) | (simp; omega) | omega))))
                 have hr3 : w3.heap[w.heap.size]? = some (.cells #[.int .i64 d.st, .slice p.a1 d.se.length p.c1, .slice p.a2 d.sd.length p.c2, .slice p.a3 d.sx.length p.c3, .slice p.a4 d.rv.length p.c4] 26 (0, 0)) := (Hb3.out.block _ hs1').trans Hr1.out
                 have hz3 : w3.heap[w.heap.size + 1]? = some (.cells #[.int .i64 0, .slice none 0 0, .slice none 0 0, .slice none 0 0, .slice none 0 0] 26 (0, 0)) := (Hb3.out.block _ hs1).trans Hz1.out
                 have ht3 : w3.heap[w1.heap.size]? = some (.cells #[.int .i64 d.st, .slice q.a1 d.se.length q.c1, .slice q.a2 d.sd.length q.c2, .slice q.a3 d.sx.length q.c3, .slice q.a4 d.rv.length q.c4] 26 (0, 0)) := (hb3.block _ (by first | (simp; done) | (simp; omega))).trans (heap_alloc_new w1 _)
                 have Hown3 : Hid (OwnD w3 (w.heap.size + 2) q d) := Lib.hid (Hown1.out.below Hb3.out)
                 have hs3 : w1.heap.size < w3.heap.size := (by have := hb3.size; simp at this; omega)
                 have Hz3 := Lib.hid hz3
                 have Ht3 := Lib.hid ht3
                 have HB3 : Hid (Below w.heap.size w w3) := Lib.hid (Hb1.out.trans (Hb3.out.mono hs1''))
                 have c30 := cell_of_row w3 (w.heap.size) 0 _ _ _ hr3; have c31 := cell_of_row w3 (w.heap.size) 1 _ _ _ hr3; have c32 := cell_of_row w3 (w.heap.size) 2 _ _ _ hr3; have c33 := cell_of_row w3 (w.heap.size) 3 _ _ _ hr3; have c34 := cell_of_row w3 (w.heap.size) 4 _ _ _ hr3; have t30 := cell_of_row w3 (w1.heap.size) 0 _ _ _ ht3; have t31 := cell_of_row w3 (w1.heap.size) 1 _ _ _ ht3; have t32 := cell_of_row w3 (w1.heap.size) 2 _ _ _ ht3; have t33 := cell_of_row w3 (w1.heap.size) 3 _ _ _ ht3; have t34 := cell_of_row w3 (w1.heap.size) 4 _ _ _ ht3; have z30 := cell_of_row w3 (w.heap.size + 1) 0 _ _ _ hz3; have z31 := cell_of_row w3 (w.heap.size + 1) 1 _ _ _ hz3; have z32 := cell_of_row w3 (w.heap.size + 1) 2 _ _ _ hz3; have z33 := cell_of_row w3 (w.heap.size + 1) 3 _ _ _ hz3; have z34 := cell_of_row w3 (w.heap.size + 1) 4 _ _ _ hz3; have g30 := frozen_of_row w3 (w.heap.size + 1) 0 _ _ hz3; have g31 := frozen_of_row w3 (w.heap.size + 1) 1 _ _ hz3; have g32 := frozen_of_row w3 (w.heap.size + 1) 2 _ _ hz3; have g33 := frozen_of_row w3 (w.heap.size + 1) 3 _ _ hz3; have g34 := frozen_of_row w3 (w.heap.size + 1) 4 _ _ hz3; have u30 := frozen_of_row w3 (w1.heap.size) 0 _ _ ht3; have u31 := frozen_of_row w3 (w1.heap.size) 1 _ _ ht3; have u32 := frozen_of_row w3 (w1.heap.size) 2 _ _ ht3; have u33 := frozen_of_row w3 (w1.heap.size) 3 _ _ ht3; have u34 := frozen_of_row w3 (w1.heap.size) 4 _ _ ht3;
                 rw [He2.out] at c32
                 have cs3 := (HB3.out.cell (p := ⟨b2, o2 + n, none⟩) hb2).trans Hcs2.out
                 rw [He4.out] at c34
                 have cs5 := (HB3.out.cell (p := ⟨b4, o4 + n, none⟩) hb4).trans Hcs4.out
                 rw [He1.out] at c31
                 have cs6 := (HB3.out.cell (p := ⟨b1, o1 + n, none⟩) hb1).trans Hcs1.out
                 clear hb3 hr3 hz3 ht3)
              | fail)
            go_quiet (first | (go_at_call 33; exact quiet_left ((HS.out _).mono fun _ _ ⟨he, hw⟩ => ⟨he, hw.symm⟩)) | fail)
            go_upto_region 9 with fail
            have HB4 : Hid (Below w.heap.size w (w3.drewN nq)) := Lib.hid (below_drewN HB3.out nq)
            have Hz4 : Hid ((w3.drewN nq).heap[w.heap.size + 1]? = some (.cells #[.int .i64 0, .slice none 0 0, .slice none 0 0, .slice none 0 0, .slice none 0 0] 26 (0, 0))) := Lib.hid Hz3.out
            have Ht4 : Hid ((w3.drewN nq).heap[w1.heap.size]? = some (.cells #[.int .i64 d.st, .slice q.a1 d.se.length q.c1, .slice q.a2 d.sd.length q.c2, .slice q.a3 d.sx.length q.c3, .slice q.a4 d.rv.length q.c4] 26 (0, 0))) := Lib.hid Ht3.out
            have Hown4 : Hid (OwnD (w3.drewN nq) (w.heap.size + 2) q d) := Lib.hid (Hown3.out.below (below_drewN (Below.refl _ _) nq))
            have hs4 : w1.heap.size < (w3.drewN nq).heap.size := hs3
            generalize w3.drewN nq = w4 at *
            have hz4 := Hz4.out
            have ht4 := Ht4.out
            have tt0 := cell_of_row w4 (w1.heap.size) 0 _ _ _ ht4; have tt1 := cell_of_row w4 (w1.heap.size) 1 _ _ _ ht4; have tt2 := cell_of_row w4 (w1.heap.size) 2 _ _ _ ht4; have tt3 := cell_of_row w4 (w1.heap.size) 3 _ _ _ ht4; have tt4 := cell_of_row w4 (w1.heap.size) 4 _ _ _ ht4; have zz0 := cell_of_row w4 (w.heap.size + 1) 0 _ _ _ hz4; have zz1 := cell_of_row w4 (w.heap.size + 1) 1 _ _ _ hz4; have zz2 := cell_of_row w4 (w.heap.size + 1) 2 _ _ _ hz4; have zz3 := cell_of_row w4 (w.heap.size + 1) 3 _ _ _ hz4; have zz4 := cell_of_row w4 (w.heap.size + 1) 4 _ _ _ hz4; have gg0 := frozen_of_row w4 (w.heap.size + 1) 0 _ _ hz4; have gg1 := frozen_of_row w4 (w.heap.size + 1) 1 _ _ hz4; have gg2 := frozen_of_row w4 (w.heap.size + 1) 2 _ _ hz4; have gg3 := frozen_of_row w4 (w.heap.size + 1) 3 _ _ hz4; have gg4 := frozen_of_row w4 (w.heap.size + 1) 4 _ _ hz4; have uu0 := frozen_of_row w4 (w1.heap.size) 0 _ _ ht4; have uu1 := frozen_of_row w4 (w1.heap.size) 1 _ _ ht4; have uu2 := frozen_of_row w4 (w1.heap.size) 2 _ _ ht4; have uu3 := frozen_of_row w4 (w1.heap.size) 3 _ _ ht4; have uu4 := frozen_of_row w4 (w1.heap.size) 4 _ _ ht4;
            obtain ⟨G3, gc3, hG3, hGb3, hGl3, _, _, hc3, hf3⟩ := own_at Hown4.out.o3 (by omega)
            injection hG3 with hq3 _ hqc3
            have Hq3 := Lib.hid hq3
            rw [hq3] at tt3
            have d3 := hc3 _ _ M3.out
            have fr3 := hf3 n
            have hGw3 := Hown1.out.o3.lt G3 (by rw [hq3]; rfl)
            obtain ⟨G4, gc4, hG4, hGb4, hGl4, _, _, hc4, hf4⟩ := own_at Hown4.out.o4 (by omega)
            injection hG4 with hq4 _ hqc4
            have Hq4 := Lib.hid hq4
            rw [hq4] at tt4
            have d4 := hc4 _ _ M4.out
            have fr4 := hf4 n
            have hGw4 := Hown1.out.o4.lt G4 (by rw [hq4]; rfl)
            have hG34 : G3 ≠ G4 := fun e => Hown4.out.n34 G3 (by rw [hq3]; rfl) (by rw [hq4, e]; rfl)
            clear hc3 hf3 hc4 hf4 hq3 hq4 hqc3 hqc4
            clear hz4 ht4
            go_cut [] (fun wx => OwnD wx (w.heap.size + 2) q { d with sx := d.sx.set n a, rv := d.rv.set n true } ∧ wx.heap[w.heap.size + 1]? = some (.cells #[.int .i64 0, .slice none 0 0, .slice none 0 0, .slice none 0 0, .slice none 0 0] 26 (0, 0)) ∧ wx.heap[w1.heap.size]? = some (.cells #[.int .i64 d.st, .slice q.a1 d.se.length q.c1, .slice q.a2 d.sd.length q.c2, .slice q.a3 d.sx.length q.c3, .slice q.a4 d.rv.length q.c4] 26 (0, 0)) ∧ Below w.heap.size w wx)
            case first =>
              go_region
              all_goals go_wp2
              all_goals go_meet
              all_goals first
                | exact ⟨((Hown4.out.set3 Hq3.out n a).set4 Hq4.out n true).drew, (Below.heap_setCell _ _ _ _ (by simp; omega)).trans ((Below.heap_setCell _ _ _ _ (by simp; omega)).trans Hz4.out), (Below.heap_setCell _ _ _ _ (by simp; omega)).trans ((Below.heap_setCell _ _ _ _ (by simp; omega)).trans Ht4.out), Below.drew ((HB4.out.setCell (by simp; omega) _).setCell (by simp; omega) _)⟩
                | exact ⟨((Hown4.out.set4 Hq4.out n true).set3 Hq3.out n a).drew, (Below.heap_setCell _ _ _ _ (by simp; omega)).trans ((Below.heap_setCell _ _ _ _ (by simp; omega)).trans Hz4.out), (Below.heap_setCell _ _ _ _ (by simp; omega)).trans ((Below.heap_setCell _ _ _ _ (by simp; omega)).trans Ht4.out), Below.drew ((HB4.out.setCell (by simp; omega) _).setCell (by simp; omega) _)⟩
            case rest =>
              obtain ⟨wx, rfl⟩ : ∃ wx : World, wx = wc := ⟨_, rfl⟩
              obtain ⟨hox, hzx, htx, hbx⟩ := hcut
              have Hox := Lib.hid hox
              have Hzx := Lib.hid hzx
              have Hbx := Lib.hid hbx
              have tx0 := cell_of_row wx (w1.heap.size) 0 _ _ _ htx; have tx1 := cell_of_row wx (w1.heap.size) 1 _ _ _ htx; have tx2 := cell_of_row wx (w1.heap.size) 2 _ _ _ htx; have tx3 := cell_of_row wx (w1.heap.size) 3 _ _ _ htx; have tx4 := cell_of_row wx (w1.heap.size) 4 _ _ _ htx; have zx0 := cell_of_row wx (w.heap.size + 1) 0 _ _ _ hzx; have zx1 := cell_of_row wx (w.heap.size + 1) 1 _ _ _ hzx; have zx2 := cell_of_row wx (w.heap.size + 1) 2 _ _ _ hzx; have zx3 := cell_of_row wx (w.heap.size + 1) 3 _ _ _ hzx; have zx4 := cell_of_row wx (w.heap.size + 1) 4 _ _ _ hzx; have gx0 := frozen_of_row wx (w.heap.size + 1) 0 _ _ hzx; have gx1 := frozen_of_row wx (w.heap.size + 1) 1 _ _ hzx; have gx2 := frozen_of_row wx (w.heap.size + 1) 2 _ _ hzx; have gx3 := frozen_of_row wx (w.heap.size + 1) 3 _ _ hzx; have gx4 := frozen_of_row wx (w.heap.size + 1) 4 _ _ hzx;
              clear hox hzx htx hbx
              go_wp2
              have hz5 := box5 (x := .int .i64 (d.st)) (y := .slice q.a1 d.se.length q.c1) (z := .slice q.a2 d.sd.length q.c2) (u := .slice q.a3 d.sx.length q.c3) (v := .slice q.a4 d.rv.length q.c4) Hzx.out
              have y0 := cell_of_row _ _ 0 _ _ _ hz5
              have y1 := cell_of_row _ _ 1 _ _ _ hz5
              have y2 := cell_of_row _ _ 2 _ _ _ hz5
              have y3 := cell_of_row _ _ 3 _ _ _ hz5
              have y4 := cell_of_row _ _ 4 _ _ _ hz5
              refine bodyPost_ret (v := .tuple #[.agg #[.int .i64 (d.st), .slice q.a1 d.se.length q.c1, .slice q.a2 d.sd.length q.c2, .slice q.a3 d.sx.length q.c3, .slice q.a4 d.rv.length q.c4], .int .i64 0]) (by simp [results, Try.results22, go_sem, *]) rfl ?_
              exact ⟨q, by simp, ((Hox.out).old box5_only (by omega)).rebase (by omega), box5_below Hbx.out (by omega)⟩
          · rw [if_neg hsl]
            have hsl' : ¬ sv = sl := fun e => hsl e.symm
            go_enter Try.func22, Try.ntmps22
            go_wp2_with (first
              | (go_at_call 43
                 refine (clone_any p d _ (H.out.below (by repeat' (first | with_reducible exact Below.refl _ _ | with_reducible refine below_drewN ?_ _ | with_reducible refine Below.drew ?_ | with_reducible refine Below.alloc ?_ ?_ _ | with_reducible refine Below.setCell ?_ ?_ _ | with_reducible refine Below.trans ?_ (Below.mono (by with_reducible assumption) ?_) | (simp; done) | (simp; omega) | omega))) hl).mono ?_
                 rintro e w1 ⟨q, rfl, hown1, hb1⟩
                 have hr1 : w1.heap[w.heap.size]? = some (.cells #[.int .i64 d.st, .slice p.a1 d.se.length p.c1, .slice p.a2 d.sd.length p.c2, .slice p.a3 d.sx.length p.c3, .slice p.a4 d.rv.length p.c4] 26 (0, 0)) := (hb1.block _ (by first | (simp; done) | (simp; omega))).trans ((Below.heap_alloc _ _ _ (by first | (simp; done) | (simp; omega))).trans (heap_alloc_new w _))
                 have hz1 : w1.heap[w.heap.size + 1]? = some (.cells #[.int .i64 0, .slice none 0 0, .slice none 0 0, .slice none 0 0, .slice none 0 0] 26 (0, 0)) := (hb1.block _ (by first | (simp; done) | (simp; omega))).trans (by have := heap_alloc2_new w (.cells #[.int .i64 d.st, .slice p.a1 d.se.length p.c1, .slice p.a2 d.sd.length p.c2, .slice p.a3 d.sx.length p.c3, .slice p.a4 d.rv.length p.c4] 26) (.cells #[.int .i64 0, .slice none 0 0, .slice none 0 0, .slice none 0 0, .slice none 0 0] 26); exact this)
                 have hs1 : w.heap.size + 1 < w1.heap.size := (by have := hb1.size; simp at this; omega)
                 have hs1' : w.heap.size < w1.heap.size := Nat.lt_trans (Nat.lt_succ_self _) hs1
                 have hs1'' : w.heap.size ≤ w1.heap.size := Nat.le_of_lt hs1'
                 have Hb1 : Hid (Below w.heap.size w w1) := Lib.hid (show Below w.heap.size w w1 from (by have hbq := hb1; exact (by repeat' (first | with_reducible exact Below.refl _ _ | with_reducible assumption | with_reducible refine below_drewN ?_ _ | with_reducible refine Below.drew ?_ | with_reducible refine Below.alloc ?_ ?_ _ | with_reducible refine Below.setCell ?_ ?_ _ | with_reducible refine Below.trans ?_ (Below.mono (by with_reducible assumption) ?_) | with_reducible refine below_only ?_ (by with_reducible assumption) ?_ ?_ | (simp; done) | (simp; omega) | omega))))
                 have Hown1 : Hid (OwnD w1 (w.heap.size + 2) q d) := Lib.hid (hown1.rebase (by first | (simp; done) | (simp; omega)))
                 have Hr1 := Lib.hid hr1
                 have Hz1 := Lib.hid hz1
                 have c10 := cell_of_row w1 (w.heap.size) 0 _ _ _ hr1; have c11 := cell_of_row w1 (w.heap.size) 1 _ _ _ hr1; have c12 := cell_of_row w1 (w.heap.size) 2 _ _ _ hr1; have c13 := cell_of_row w1 (w.heap.size) 3 _ _ _ hr1; have c14 := cell_of_row w1 (w.heap.size) 4 _ _ _ hr1;
                 clear hown1 hb1 hr1 hz1)
              | (go_at_call 44
                 refine (usable_any p d 2 _ (H.out.below (Hb1.out.trans (Below.mono (show Below w1.heap.size w1 _ from (by repeat' (first | with_reducible exact Below.refl _ _ | with_reducible refine below_drewN ?_ _ | with_reducible refine Below.drew ?_ | with_reducible refine Below.alloc ?_ ?_ _ | with_reducible refine Below.setCell ?_ ?_ _ | with_reducible refine Below.trans ?_ (Below.mono (by with_reducible assumption) ?_) | (simp; done) | (simp; omega) | omega))) hs1'')))).mono ?_
                 rintro e w3 ⟨rfl, hb3⟩
                 rw [HU.out]
                 have Hb3 : Hid (Below w1.heap.size w1 w3) := Lib.hid (show Below w1.heap.size w1 w3 from (by have hbq := hb3; exact (by repeat' (first | with_reducible exact Below.refl _ _ | with_reducible assumption | with_reducible refine below_drewN ?_ _ | with_reducible refine Below.drew ?_ | with_reducible refine Below.alloc ?_ ?_ _ | with_reducible refine Below.setCell ?_ ?_ _ | with_reducible refine Below.trans ?_ (Below.mono (by with_reducible assumption) ?_) | with_reducible refine below_only ?_ (by with_reducible assumption) ?_ ?_ | (simp; done) | (simp; omega) | omega))))
                 have hr3 : w3.heap[w.heap.size]? = some (.cells #[.int .i64 d.st, .slice p.a1 d.se.length p.c1, .slice p.a2 d.sd.length p.c2, .slice p.a3 d.sx.length p.c3, .slice p.a4 d.rv.length p.c4] 26 (0, 0)) := (Hb3.out.block _ hs1').trans Hr1.out
                 have hz3 : w3.heap[w.heap.size + 1]? = some (.cells #[.int .i64 0, .slice none 0 0, .slice none 0 0, .slice none 0 0, .slice none 0 0] 26 (0, 0)) := (Hb3.out.block _ hs1).trans Hz1.out
                 have ht3 : w3.heap[w1.heap.size]? = some (.cells #[.int .i64 d.st, .slice q.a1 d.se.length q.c1, .slice q.a2 d.sd.length q.c2, .slice q.a3 d.sx.length q.c3, .slice q.a4 d.rv.length q.c4] 26 (0, 0)) := (hb3.block _ (by first | (simp; done) | (simp; omega))).trans (heap_alloc_new w1 _)
                 have Hown3 : Hid (OwnD w3 (w.heap.size + 2) q d) := Lib.hid (Hown1.out.below Hb3.out)
                 have hs3 : w1.heap.size < w3.heap.size := (by have := hb3.size; simp at this; omega)
                 have Hz3 := Lib.hid hz3
                 have Ht3 := Lib.hid ht3
                 have HB3 : Hid (Below w.heap.size w w3) := Lib.hid (Hb1.out.trans (Hb3.out.mono hs1''))
                 have c30 := cell_of_row w3 (w.heap.size) 0 _ _ _ hr3; have c31 := cell_of_row w3 (w.heap.size) 1 _ _ _ hr3; have c32 := cell_of_row w3 (w.heap.size) 2 _ _ _ hr3; have c33 := cell_of_row w3 (w.heap.size) 3 _ _ _ hr3; have c34 := cell_of_row w3 (w.heap.size) 4 _ _ _ hr3; have t30 := cell_of_row w3 (w1.heap.size) 0 _ _ _ ht3; have t31 := cell_of_row w3 (w1.heap.size) 1 _ _ _ ht3; have t32 := cell_of_row w3 (w1.heap.size) 2 _ _ _ ht3; have t33 := cell_of_row w3 (w1.heap.size) 3 _ _ _ ht3; have t34 := cell_of_row w3 (w1.heap.size) 4 _ _ _ ht3; have z30 := cell_of_row w3 (w.heap.size + 1) 0 _ _ _ hz3; have z31 := cell_of_row w3 (w.heap.size + 1) 1 _ _ _ hz3; have z32 := cell_of_row w3 (w.heap.size + 1) 2 _ _ _ hz3; have z33 := cell_of_row w3 (w.heap.size + 1) 3 _ _ _ hz3; have z34 := cell_of_row w3 (w.heap.size + 1) 4 _ _ _ hz3; have g30 := frozen_of_row w3 (w.heap.size + 1) 0 _ _ hz3; have g31 := frozen_of_row w3 (w.heap.size + 1) 1 _ _ hz3; have g32 := frozen_of_row w3 (w.heap.size + 1) 2 _ _ hz3; have g33 := frozen_of_row w3 (w.heap.size + 1) 3 _ _ hz3; have g34 := frozen_of_row w3 (w.heap.size + 1) 4 _ _ hz3; have u30 := frozen_of_row w3 (w1.heap.size) 0 _ _ ht3; have u31 := frozen_of_row w3 (w1.heap.size) 1 _ _ ht3; have u32 := frozen_of_row w3 (w1.heap.size) 2 _ _ ht3; have u33 := frozen_of_row w3 (w1.heap.size) 3 _ _ ht3; have u34 := frozen_of_row w3 (w1.heap.size) 4 _ _ ht3;
                 rw [He2.out] at c32
                 have cs3 := (HB3.out.cell (p := ⟨b2, o2 + n, none⟩) hb2).trans Hcs2.out
                 rw [He4.out] at c34
                 have cs5 := (HB3.out.cell (p := ⟨b4, o4 + n, none⟩) hb4).trans Hcs4.out
                 rw [He1.out] at c31
                 have cs6 := (HB3.out.cell (p := ⟨b1, o1 + n, none⟩) hb1).trans Hcs1.out
                 clear hb3 hr3 hz3 ht3)
              | fail)
            go_quiet (first | (go_at_call 33; exact quiet_left ((HS.out _).mono fun _ _ ⟨he, hw⟩ => ⟨he, hw.symm⟩)) | fail)
            go_upto_region 8 with fail
            have HB4 : Hid (Below w.heap.size w (w3.drewN nq)) := Lib.hid (below_drewN HB3.out nq)
            have Hz4 : Hid ((w3.drewN nq).heap[w.heap.size + 1]? = some (.cells #[.int .i64 0, .slice none 0 0, .slice none 0 0, .slice none 0 0, .slice none 0 0] 26 (0, 0))) := Lib.hid Hz3.out
            have Ht4 : Hid ((w3.drewN nq).heap[w1.heap.size]? = some (.cells #[.int .i64 d.st, .slice q.a1 d.se.length q.c1, .slice q.a2 d.sd.length q.c2, .slice q.a3 d.sx.length q.c3, .slice q.a4 d.rv.length q.c4] 26 (0, 0))) := Lib.hid Ht3.out
            have Hown4 : Hid (OwnD (w3.drewN nq) (w.heap.size + 2) q d) := Lib.hid (Hown3.out.below (below_drewN (Below.refl _ _) nq))
            have hs4 : w1.heap.size < (w3.drewN nq).heap.size := hs3
            generalize w3.drewN nq = w4 at *
            have hz4 := Hz4.out
            have ht4 := Ht4.out
            have tt0 := cell_of_row w4 (w1.heap.size) 0 _ _ _ ht4; have tt1 := cell_of_row w4 (w1.heap.size) 1 _ _ _ ht4; have tt2 := cell_of_row w4 (w1.heap.size) 2 _ _ _ ht4; have tt3 := cell_of_row w4 (w1.heap.size) 3 _ _ _ ht4; have tt4 := cell_of_row w4 (w1.heap.size) 4 _ _ _ ht4; have zz0 := cell_of_row w4 (w.heap.size + 1) 0 _ _ _ hz4; have zz1 := cell_of_row w4 (w.heap.size + 1) 1 _ _ _ hz4; have zz2 := cell_of_row w4 (w.heap.size + 1) 2 _ _ _ hz4; have zz3 := cell_of_row w4 (w.heap.size + 1) 3 _ _ _ hz4; have zz4 := cell_of_row w4 (w.heap.size + 1) 4 _ _ _ hz4; have gg0 := frozen_of_row w4 (w.heap.size + 1) 0 _ _ hz4; have gg1 := frozen_of_row w4 (w.heap.size + 1) 1 _ _ hz4; have gg2 := frozen_of_row w4 (w.heap.size + 1) 2 _ _ hz4; have gg3 := frozen_of_row w4 (w.heap.size + 1) 3 _ _ hz4; have gg4 := frozen_of_row w4 (w.heap.size + 1) 4 _ _ hz4; have uu0 := frozen_of_row w4 (w1.heap.size) 0 _ _ ht4; have uu1 := frozen_of_row w4 (w1.heap.size) 1 _ _ ht4; have uu2 := frozen_of_row w4 (w1.heap.size) 2 _ _ ht4; have uu3 := frozen_of_row w4 (w1.heap.size) 3 _ _ ht4; have uu4 := frozen_of_row w4 (w1.heap.size) 4 _ _ ht4;
            clear hz4 ht4
            go_wp2
            have hz5 := box5 (x := .int .i64 (d.st)) (y := .slice q.a1 d.se.length q.c1) (z := .slice q.a2 d.sd.length q.c2) (u := .slice q.a3 d.sx.length q.c3) (v := .slice q.a4 d.rv.length q.c4) Hz4.out
            have y0 := cell_of_row _ _ 0 _ _ _ hz5
            have y1 := cell_of_row _ _ 1 _ _ _ hz5
            have y2 := cell_of_row _ _ 2 _ _ _ hz5
            have y3 := cell_of_row _ _ 3 _ _ _ hz5
            have y4 := cell_of_row _ _ 4 _ _ _ hz5
            refine bodyPost_ret (v := .tuple #[.agg #[.int .i64 (d.st), .slice q.a1 d.se.length q.c1, .slice q.a2 d.sd.length q.c2, .slice q.a3 d.sx.length q.c3, .slice q.a4 d.rv.length q.c4], .int .i64 62]) (by simp [results, Try.results22, go_sem, *]) rfl ?_
            exact ⟨q, rfl, ((Hown4.out).old box5_only (by omega)).rebase (by omega), box5_below HB4.out (by omega)⟩
  · have e0 : revealD d k a b = (d, u) := by rw [Hn.out, hu, if_neg h0]
    rw [e0]
    clear e0 hu Hn h
    go_enter Try.func22, Try.ntmps22
    go_wp2_with (first
      | (go_at_call 43
         refine (clone_any p d _ (H.out.below (by repeat' (first | with_reducible exact Below.refl _ _ | with_reducible refine below_drewN ?_ _ | with_reducible refine Below.drew ?_ | with_reducible refine Below.alloc ?_ ?_ _ | with_reducible refine Below.setCell ?_ ?_ _ | with_reducible refine Below.trans ?_ (Below.mono (by with_reducible assumption) ?_) | (simp; done) | (simp; omega) | omega))) hl).mono ?_
         rintro e w1 ⟨q, rfl, hown1, hb1⟩
         have hr1 : w1.heap[w.heap.size]? = some (.cells #[.int .i64 d.st, .slice p.a1 d.se.length p.c1, .slice p.a2 d.sd.length p.c2, .slice p.a3 d.sx.length p.c3, .slice p.a4 d.rv.length p.c4] 26 (0, 0)) := (hb1.block _ (by first | (simp; done) | (simp; omega))).trans ((Below.heap_alloc _ _ _ (by first | (simp; done) | (simp; omega))).trans (heap_alloc_new w _))
         have hz1 : w1.heap[w.heap.size + 1]? = some (.cells #[.int .i64 0, .slice none 0 0, .slice none 0 0, .slice none 0 0, .slice none 0 0] 26 (0, 0)) := (hb1.block _ (by first | (simp; done) | (simp; omega))).trans (by have := heap_alloc2_new w (.cells #[.int .i64 d.st, .slice p.a1 d.se.length p.c1, .slice p.a2 d.sd.length p.c2, .slice p.a3 d.sx.length p.c3, .slice p.a4 d.rv.length p.c4] 26) (.cells #[.int .i64 0, .slice none 0 0, .slice none 0 0, .slice none 0 0, .slice none 0 0] 26); exact this)
         have hs1 : w.heap.size + 1 < w1.heap.size := (by have := hb1.size; simp at this; omega)
         have hs1' : w.heap.size < w1.heap.size := Nat.lt_trans (Nat.lt_succ_self _) hs1
         have hs1'' : w.heap.size ≤ w1.heap.size := Nat.le_of_lt hs1'
         have Hb1 : Hid (Below w.heap.size w w1) := Lib.hid (show Below w.heap.size w w1 from (by have hbq := hb1; exact (by repeat' (first | with_reducible exact Below.refl _ _ | with_reducible assumption | with_reducible refine below_drewN ?_ _ | with_reducible refine Below.drew ?_ | with_reducible refine Below.alloc ?_ ?_ _ | with_reducible refine Below.setCell ?_ ?_ _ | with_reducible refine Below.trans ?_ (Below.mono (by with_reducible assumption) ?_) | with_reducible refine below_only ?_ (by with_reducible assumption) ?_ ?_ | (simp; done) | (simp; omega) | omega))))
         have Hown1 : Hid (OwnD w1 (w.heap.size + 2) q d) := Lib.hid (hown1.rebase (by first | (simp; done) | (simp; omega)))
         have Hr1 := Lib.hid hr1
         have Hz1 := Lib.hid hz1
         have c10 := cell_of_row w1 (w.heap.size) 0 _ _ _ hr1; have c11 := cell_of_row w1 (w.heap.size) 1 _ _ _ hr1; have c12 := cell_of_row w1 (w.heap.size) 2 _ _ _ hr1; have c13 := cell_of_row w1 (w.heap.size) 3 _ _ _ hr1; have c14 := cell_of_row w1 (w.heap.size) 4 _ _ _ hr1;
         clear hown1 hb1 hr1 hz1)
      | (go_at_call 44
         refine (usable_any p d 2 _ (H.out.below (Hb1.out.trans (Below.mono (show Below w1.heap.size w1 _ from (by repeat' (first | with_reducible exact Below.refl _ _ | with_reducible refine below_drewN ?_ _ | with_reducible refine Below.drew ?_ | with_reducible refine Below.alloc ?_ ?_ _ | with_reducible refine Below.setCell ?_ ?_ _ | with_reducible refine Below.trans ?_ (Below.mono (by with_reducible assumption) ?_) | (simp; done) | (simp; omega) | omega))) hs1'')))).mono ?_
         rintro e w3 ⟨rfl, hb3⟩
         rw [HU.out]
         have Hb3 : Hid (Below w1.heap.size w1 w3) := Lib.hid (show Below w1.heap.size w1 w3 from (by have hbq := hb3; exact (by repeat' (first | with_reducible exact Below.refl _ _ | with_reducible assumption | with_reducible refine below_drewN ?_ _ | with_reducible refine Below.drew ?_ | with_reducible refine Below.alloc ?_ ?_ _ | with_reducible refine Below.setCell ?_ ?_ _ | with_reducible refine Below.trans ?_ (Below.mono (by with_reducible assumption) ?_) | with_reducible refine below_only ?_ (by with_reducible assumption) ?_ ?_ | (simp; done) | (simp; omega) | omega))))
         have hr3 : w3.heap[w.heap.size]? = some (.cells #[.int .i64 d.st, .slice p.a1 d.se.length p.c1, .slice p.a2 d.sd.length p.c2, .slice p.a3 d.sx.length p.c3, .slice p.a4 d.rv.length p.c4] 26 (0, 0)) := (Hb3.out.block _ hs1').trans Hr1.out
         have hz3 : w3.heap[w.heap.size + 1]? = some (.cells #[.int .i64 0, .slice none 0 0, .slice none 0 0, .slice none 0 0, .slice none 0 0] 26 (0, 0)) := (Hb3.out.block _ hs1).trans Hz1.out
         have ht3 : w3.heap[w1.heap.size]? = some (.cells #[.int .i64 d.st, .slice q.a1 d.se.length q.c1, .slice q.a2 d.sd.length q.c2, .slice q.a3 d.sx.length q.c3, .slice q.a4 d.rv.length q.c4] 26 (0, 0)) := (hb3.block _ (by first | (simp; done) | (simp; omega))).trans (heap_alloc_new w1 _)
         have Hown3 : Hid (OwnD w3 (w.heap.size + 2) q d) := Lib.hid (Hown1.out.below Hb3.out)
         have hs3 : w1.heap.size < w3.heap.size := (by have := hb3.size; simp at this; omega)
         have Hz3 := Lib.hid hz3
         have Ht3 := Lib.hid ht3
         have HB3 : Hid (Below w.heap.size w w3) := Lib.hid (Hb1.out.trans (Hb3.out.mono hs1''))
         have c30 := cell_of_row w3 (w.heap.size) 0 _ _ _ hr3; have c31 := cell_of_row w3 (w.heap.size) 1 _ _ _ hr3; have c32 := cell_of_row w3 (w.heap.size) 2 _ _ _ hr3; have c33 := cell_of_row w3 (w.heap.size) 3 _ _ _ hr3; have c34 := cell_of_row w3 (w.heap.size) 4 _ _ _ hr3; have t30 := cell_of_row w3 (w1.heap.size) 0 _ _ _ ht3; have t31 := cell_of_row w3 (w1.heap.size) 1 _ _ _ ht3; have t32 := cell_of_row w3 (w1.heap.size) 2 _ _ _ ht3; have t33 := cell_of_row w3 (w1.heap.size) 3 _ _ _ ht3; have t34 := cell_of_row w3 (w1.heap.size) 4 _ _ _ ht3; have z30 := cell_of_row w3 (w.heap.size + 1) 0 _ _ _ hz3; have z31 := cell_of_row w3 (w.heap.size + 1) 1 _ _ _ hz3; have z32 := cell_of_row w3 (w.heap.size + 1) 2 _ _ _ hz3; have z33 := cell_of_row w3 (w.heap.size + 1) 3 _ _ _ hz3; have z34 := cell_of_row w3 (w.heap.size + 1) 4 _ _ _ hz3; have g30 := frozen_of_row w3 (w.heap.size + 1) 0 _ _ hz3; have g31 := frozen_of_row w3 (w.heap.size + 1) 1 _ _ hz3; have g32 := frozen_of_row w3 (w.heap.size + 1) 2 _ _ hz3; have g33 := frozen_of_row w3 (w.heap.size + 1) 3 _ _ hz3; have g34 := frozen_of_row w3 (w.heap.size + 1) 4 _ _ hz3; have u30 := frozen_of_row w3 (w1.heap.size) 0 _ _ ht3; have u31 := frozen_of_row w3 (w1.heap.size) 1 _ _ ht3; have u32 := frozen_of_row w3 (w1.heap.size) 2 _ _ ht3; have u33 := frozen_of_row w3 (w1.heap.size) 3 _ _ ht3; have u34 := frozen_of_row w3 (w1.heap.size) 4 _ _ ht3;
           clear hb3 hr3 hz3 ht3)
      | fail)
    have hz5 := box5 (x := .int .i64 (d.st)) (y := .slice q.a1 d.se.length q.c1) (z := .slice q.a2 d.sd.length q.c2) (u := .slice q.a3 d.sx.length q.c3) (v := .slice q.a4 d.rv.length q.c4) Hz3.out
    have y0 := cell_of_row _ _ 0 _ _ _ hz5
    have y1 := cell_of_row _ _ 1 _ _ _ hz5
    have y2 := cell_of_row _ _ 2 _ _ _ hz5
    have y3 := cell_of_row _ _ 3 _ _ _ hz5
    have y4 := cell_of_row _ _ 4 _ _ _ hz5
    refine bodyPost_ret (v := .tuple #[.agg #[.int .i64 (d.st), .slice q.a1 d.se.length q.c1, .slice q.a2 d.sd.length q.c2, .slice q.a3 d.sx.length q.c3, .slice q.a4 d.rv.length q.c4], .int .i64 u]) (by simp [results, Try.results22, go_sem, *]) rfl ?_
    exact ⟨q, rfl, ((Hown3.out).old box5_only (by omega)).rebase (by omega), box5_below HB3.out (by omega)⟩
end Go.Proofs.Ytbkkmgofjhaaoaa
