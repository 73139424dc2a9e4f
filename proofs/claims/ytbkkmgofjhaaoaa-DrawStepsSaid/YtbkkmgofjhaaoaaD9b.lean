/- Contracts: Commit (draw). -/
import Derived.Test.YtbkkmgofjhaaoaaD9
namespace Go.Proofs.Ytbkkmgofjhaaoaa
open Go.RowKit
set_option linter.unusedVariables false
set_option linter.unusedSimpArgs false


set_option maxHeartbeats 8000000 in
set_option maxRecDepth 100000 in
theorem commit_any (p : DV) (d : Dr) (k s : Int) (w : World) (h : DrAt w p d) (hl : d.small) : Calls Try.prog 17 #[.agg #[.int .i64 d.st, .slice p.a1 d.se.length p.c1, .slice p.a2 d.sd.length p.c2, .slice p.a3 d.sx.length p.c3, .slice p.a4 d.rv.length p.c4], .int .i64 k, .int .u64 s] w (DrEPost w (commitD d k s)) := by
  have H := Lib.hid h
  have Hn : Hid (commitD d k s = if usableD d 1 = 0 then (if noSeal d k then (d, 63) else ({ d with se := d.se.set k.toNat s, sd := d.sd.set k.toNat true }, 0)) else (d, usableD d 1)) := Lib.hid rfl
  obtain ⟨u, hu⟩ : ∃ u, usableD d 1 = u := ⟨_, rfl⟩
  have HU := Lib.hid hu
  by_cases h0 : u = 0
  · subst h0
    obtain ⟨x1, x2, x3, x4, x5, x6, x7⟩ := usable_lens hu
    by_cases hk0 : k < 0
    · have e0 : commitD d k s = (d, 63) := by rw [Hn.out, hu, if_pos rfl, if_pos (by simp [noSeal, hk0])]
      rw [e0]
      clear e0 hu Hn h x1 x2 x3 x4 x5 x6 x7
      go_enter Try.func17, Try.ntmps17
      go_wp2_with (first
        | (go_at_call 43
           refine (clone_any p d _ (H.out.below (by repeat' (first | with_reducible exact Below.refl _ _ | with_reducible refine below_drewN ?_ _ | with_reducible refine Below.drew ?_ | with_reducible refine Below.alloc ?_ ?_ _ | with_reducible refine Below.setCell ?_ ?_ _ | with_reducible refine Below.trans ?_ (Below.mono (by with_reducible assumption) ?_) | (simp; done) | (simp; omega) | omega))) hl).mono ?_
           rintro e w1 ⟨q, rfl, hown1, hb1⟩
           have hr1 : w1.heap[w.heap.size]? = some (.cells #[.int .i64 d.st, .slice p.a1 d.se.length p.c1, .slice p.a2 d.sd.length p.c2, .slice p.a3 d.sx.length p.c3, .slice p.a4 d.rv.length p.c4] 26 (0, 0)) := (hb1.block _ (by first | (simp; done) | (simp; omega))).trans ((Below.heap_alloc _ _ _ (by first | (simp; done) | (simp; omega))).trans (heap_alloc_new w _))
           have hz1 : w1.heap[w.heap.size + 1]? = some (.cells #[.int .i64 0, .slice none 0 0, .slice none 0 0, .slice none 0 0, .slice none 0 0] 26 (0, 0)) := (hb1.block _ (by first | (simp; done) | (simp; omega))).trans (by have := heap_alloc2_new w (.cells #[.int .i64 d.st, .slice p.a1 d.se.length p.c1, .slice p.a2 d.sd.length p.c2, .slice p.a3 d.sx.length p.c3, .slice p.a4 d.rv.length p.c4] 26) (.cells #[.int .i64 0, .slice none 0 0, .slice none 0 0, .slice none 0 0, .slice none 0 0] 26); exact this)
           have hs1 : w.heap.size + 1 < w1.heap.size := (by have := hb1.size; simp at this; omega)
           have hs1' : w.heap.size < w1.heap.size := Nat.lt_trans (Nat.lt_succ_self _) hs1
           have hs1'' : w.heap.size ≤ w1.heap.size := Nat.le_of_lt hs1'
           have Hb1 : Hid (Below w.heap.size w w1) := Lib.hid (show Below w.heap.size w w1 from (by have hbq := hb1; exact (by repeat' (first | with_reducible exact Below.refl _ _ | with_reducible assumption | with_reducible refine below_drewN ?_ _ | with_reducible refine Below.drew ?_ | with_reducible refine Below.alloc ?_ ?_ _ | with_reducible refine Below.setCell ?_ ?_ _ | with_reducible refine Below.trans ?_ (Below.mono (by with_reducible assumption) ?_) | with_reducible refine below_only ?_ (by with_reducible assumption) ?_ ?_ | (simp; done) | (simp; omega) | omega))))
           have Hown1 : Hid (OwnD w1 (w.heap.size + 2) q d) := Lib.hid (hown1.rebase (by first | (simp; done) | (simp; omega)))
           have Hr1 := Lib.hid hr1
           have Hz1 := Lib.hid hz1
           have c10 := cell_of_row w1 (w.heap.size) 0 _ _ _ hr1; have c11 := cell_of_row w1 (w.heap.size) 1 _ _ _ hr1; have c12 := cell_of_row w1 (w.heap.size) 2 _ _ _ hr1; have c13 := cell_of_row w1 (w.heap.size) 3 _ _ _ hr1; have c14 := cell_of_row w1 (w.heap.size) 4 _ _ _ hr1;
           clear hown1 hb1 hr1 hz1)
        | (go_at_call 44
           refine (usable_any p d 1 _ (H.out.below (Hb1.out.trans (Below.mono (show Below w1.heap.size w1 _ from (by repeat' (first | with_reducible exact Below.refl _ _ | with_reducible refine below_drewN ?_ _ | with_reducible refine Below.drew ?_ | with_reducible refine Below.alloc ?_ ?_ _ | with_reducible refine Below.setCell ?_ ?_ _ | with_reducible refine Below.trans ?_ (Below.mono (by with_reducible assumption) ?_) | (simp; done) | (simp; omega) | omega))) hs1'')))).mono ?_
           rintro e w3 ⟨rfl, hb3⟩
           rw [HU.out]
           have Hb3 : Hid (Below w1.heap.size w1 w3) := Lib.hid (show Below w1.heap.size w1 w3 from (by have hbq := hb3; exact (by repeat' (first | with_reducible exact Below.refl _ _ | with_reducible assumption | with_reducible refine below_drewN ?_ _ | with_reducible refine Below.drew ?_ | with_reducible refine Below.alloc ?_ ?_ _ | with_reducible refine Below.setCell ?_ ?_ _ | with_reducible refine Below.trans ?_ (Below.mono (by with_reducible assumption) ?_) | with_reducible refine below_only ?_ (by with_reducible assumption) ?_ ?_ | (simp; done) | (simp; omega) | omega))))
           have hr3 : w3.heap[w.heap.size]? = some (.cells #[.int .i64 d.st, .slice p.a1 d.se.length p.c1, .slice p.a2 d.sd.length p.c2, .slice p.a3 d.sx.length p.c3, .slice p.a4 d.rv.length p.c4] 26 (0, 0)) := (Hb3.out.block _ hs1').trans Hr1.out
           have hz3 : w3.heap[w.heap.size + 1]? = some (.cells #[.int .i64 0, .slice none 0 0, .slice none 0 0, .slice none 0 0, .slice none 0 0] 26 (0, 0)) := (Hb3.out.block _ hs1).trans Hz1.out
           have ht3 : w3.heap[w1.heap.size]? = some (.cells #[.int .i64 d.st, .slice q.a1 d.se.length q.c1, .slice q.a2 d.sd.length q.c2, .slice q.a3 d.sx.length q.c3, .slice q.a4 d.rv.length q.c4] 26 (0, 0)) := (hb3.block _ (by first | (simp; done) | (simp; omega))).trans (heap_alloc_new w1 _)
           have Hown3 : Hid (OwnD w3 (w.heap.size + 2) q d) := Lib.hid (Hown1.out.below Hb3.out)
           have hs3 : w1.heap.size < w3.heap.size := (by have := hb3.size; simp at this; omega)
           have Hz3 := Lib.hid hz3
           have Ht3 := Lib.hid ht3
           have HB3 : Hid (Below w.heap.size w w3) := Lib.hid (Hb1.out.trans (Hb3.out.mono hs1''))
           have c30 := cell_of_row w3 (w.heap.size) 0 _ _ _ hr3; have c31 := cell_of_row w3 (w.heap.size) 1 _ _ _ hr3; have c32 := cell_of_row w3 (w.heap.size) 2 _ _ _ hr3; have c33 := cell_of_row w3 (w.heap.size) 3 _ _ _ hr3; have c34 := cell_of_row w3 (w.heap.size) 4 _ _ _ hr3; have t30 := cell_of_row w3 (w1.heap.size) 0 _ _ _ ht3; have t31 := cell_of_row w3 (w1.heap.size) 1 _ _ _ ht3; have t32 := cell_of_row w3 (w1.heap.size) 2 _ _ _ ht3; have t33 := cell_of_row w3 (w1.heap.size) 3 _ _ _ ht3; have t34 := cell_of_row w3 (w1.heap.size) 4 _ _ _ ht3; have z30 := cell_of_row w3 (w.heap.size + 1) 0 _ _ _ hz3; have z31 := cell_of_row w3 (w.heap.size + 1) 1 _ _ _ hz3; have z32 := cell_of_row w3 (w.heap.size + 1) 2 _ _ _ hz3; have z33 := cell_of_row w3 (w.heap.size + 1) 3 _ _ _ hz3; have z34 := cell_of_row w3 (w.heap.size + 1) 4 _ _ _ hz3; have g30 := frozen_of_row w3 (w.heap.size + 1) 0 _ _ hz3; have g31 := frozen_of_row w3 (w.heap.size + 1) 1 _ _ hz3; have g32 := frozen_of_row w3 (w.heap.size + 1) 2 _ _ hz3; have g33 := frozen_of_row w3 (w.heap.size + 1) 3 _ _ hz3; have g34 := frozen_of_row w3 (w.heap.size + 1) 4 _ _ hz3; have u30 := frozen_of_row w3 (w1.heap.size) 0 _ _ ht3; have u31 := frozen_of_row w3 (w1.heap.size) 1 _ _ ht3; have u32 := frozen_of_row w3 (w1.heap.size) 2 _ _ ht3; have u33 := frozen_of_row w3 (w1.heap.size) 3 _ _ ht3; have u34 := frozen_of_row w3 (w1.heap.size) 4 _ _ ht3;
             clear hb3 hr3 hz3 ht3)
        | fail)
      have hz5 := box5 (x := .int .i64 (d.st)) (y := .slice q.a1 d.se.length q.c1) (z := .slice q.a2 d.sd.length q.c2) (u := .slice q.a3 d.sx.length q.c3) (v := .slice q.a4 d.rv.length q.c4) Hz3.out
      have y0 := cell_of_row _ _ 0 _ _ _ hz5
      have y1 := cell_of_row _ _ 1 _ _ _ hz5
      have y2 := cell_of_row _ _ 2 _ _ _ hz5
      have y3 := cell_of_row _ _ 3 _ _ _ hz5
      have y4 := cell_of_row _ _ 4 _ _ _ hz5
      refine bodyPost_ret (v := .tuple #[.agg #[.int .i64 (d.st), .slice q.a1 d.se.length q.c1, .slice q.a2 d.sd.length q.c2, .slice q.a3 d.sx.length q.c3, .slice q.a4 d.rv.length q.c4], .int .i64 63]) (by simp [results, Try.results17, go_sem, *]) rfl ?_
      exact ⟨q, rfl, ((Hown3.out).old box5_only (by omega)).rebase (by omega), box5_below HB3.out (by omega)⟩
    · by_cases hkl : (d.sd.length : Int) ≤ k
      · have e0 : commitD d k s = (d, 63) := by rw [Hn.out, hu, if_pos rfl, if_pos (by simp [noSeal, hkl])]
        rw [e0]
        clear e0 hu Hn h x1 x2 x3 x4 x5 x6 x7
        go_enter Try.func17, Try.ntmps17
        go_wp2_with (first
          | (go_at_call 43
             refine (clone_any p d _ (H.out.below (by repeat' (first | with_reducible exact Below.refl _ _ | with_reducible refine below_drewN ?_ _ | with_reducible refine Below.drew ?_ | with_reducible refine Below.alloc ?_ ?_ _ | with_reducible refine Below.setCell ?_ ?_ _ | with_reducible refine Below.trans ?_ (Below.mono (by with_reducible assumption) ?_) | (simp; done) | (simp; omega) | omega))) hl).mono ?_
             rintro e w1 ⟨q, rfl, hown1, hb1⟩
             have hr1 : w1.heap[w.heap.size]? = some (.cells #[.int .i64 d.st, .slice p.a1 d.se.length p.c1, .slice p.a2 d.sd.length p.c2, .slice p.a3 d.sx.length p.c3, .slice p.a4 d.rv.length p.c4] 26 (0, 0)) := (hb1.block _ (by first | (simp; done) | (simp; omega))).trans ((Below.heap_alloc _ _ _ (by first | (simp; done) | (simp; omega))).trans (heap_alloc_new w _))
             have hz1 : w1.heap[w.heap.size + 1]? = some (.cells #[.int .i64 0, .slice none 0 0, .slice none 0 0, .slice none 0 0, .slice none 0 0] 26 (0, 0)) := (hb1.block _ (by first | (simp; done) | (simp; omega))).trans (by have := heap_alloc2_new w (.cells #[.int .i64 d.st, .slice p.a1 d.se.length p.c1, .slice p.a2 d.sd.length p.c2, .slice p.a3 d.sx.length p.c3, .slice p.a4 d.rv.length p.c4] 26) (.cells #[.int .i64 0, .slice none 0 0, .slice none 0 0, .slice none 0 0, .slice none 0 0] 26); exact this)
             have hs1 : w.heap.size + 1 < w1.heap.size := (by have := hb1.size; simp at this; omega)
             have hs1' : w.heap.size < w1.heap.size := Nat.lt_trans (Nat.lt_succ_self _) hs1
             have hs1'' : w.heap.size ≤ w1.heap.size := Nat.le_of_lt hs1'
             have Hb1 : Hid (Below w.heap.size w w1) := Lib.hid (show Below w.heap.size w w1 from (by have hbq := hb1; exact (by repeat' (first | with_reducible exact Below.refl _ _ | with_reducible assumption | with_reducible refine below_drewN ?_ _ | with_reducible refine Below.drew ?_ | with_reducible refine Below.alloc ?_ ?_ _ | with_reducible refine Below.setCell ?_ ?_ _ | with_reducible refine Below.trans ?_ (Below.mono (by with_reducible assumption) ?_) | with_reducible refine below_only ?_ (by with_reducible assumption) ?_ ?_ | (simp; done) | (simp; omega) | omega))))
             have Hown1 : Hid (OwnD w1 (w.heap.size + 2) q d) := Lib.hid (hown1.rebase (by first | (simp; done) | (simp; omega)))
             have Hr1 := Lib.hid hr1
             have Hz1 := Lib.hid hz1
             have c10 := cell_of_row w1 (w.heap.size) 0 _ _ _ hr1; have c11 := cell_of_row w1 (w.heap.size) 1 _ _ _ hr1; have c12 := cell_of_row w1 (w.heap.size) 2 _ _ _ hr1; have c13 := cell_of_row w1 (w.heap.size) 3 _ _ _ hr1; have c14 := cell_of_row w1 (w.heap.size) 4 _ _ _ hr1;
             clear hown1 hb1 hr1 hz1)
          | (go_at_call 44
             refine (usable_any p d 1 _ (H.out.below (Hb1.out.trans (Below.mono (show Below w1.heap.size w1 _ from (by repeat' (first | with_reducible exact Below.refl _ _ | with_reducible refine below_drewN ?_ _ | with_reducible refine Below.drew ?_ | with_reducible refine Below.alloc ?_ ?_ _ | with_reducible refine Below.setCell ?_ ?_ _ | with_reducible refine Below.trans ?_ (Below.mono (by with_reducible assumption) ?_) | (simp; done) | (simp; omega) | omega))) hs1'')))).mono ?_
             rintro e w3 ⟨rfl, hb3⟩
             rw [HU.out]
             have Hb3 : Hid (Below w1.heap.size w1 w3) := Lib.hid (show Below w1.heap.size w1 w3 from (by have hbq := hb3; exact (by repeat' (first | with_reducible exact Below.refl _ _ | with_reducible assumption | with_reducible refine below_drewN ?_ _ | with_reducible refine Below.drew ?_ | with_reducible refine Below.alloc ?_ ?_ _ | with_reducible refine Below.setCell ?_ ?_ _ | with_reducible refine Below.trans ?_ (Below.mono (by with_reducible assumption) ?_) | with_reducible refine below_only ?_ (by with_reducible assumption) ?_ ?_ | (simp; done) | (simp; omega) | omega))))
             have hr3 : w3.heap[w.heap.size]? = some (.cells #[.int .i64 d.st, .slice p.a1 d.se.length p.c1, .slice p.a2 d.sd.length p.c2, .slice p.a3 d.sx.length p.c3, .slice p.a4 d.rv.length p.c4] 26 (0, 0)) := (Hb3.out.block _ hs1').trans Hr1.out
             have hz3 : w3.heap[w.heap.size + 1]? = some (.cells #[.int .i64 0, .slice none 0 0, .slice none 0 0, .slice none 0 0, .slice none 0 0] 26 (0, 0)) := (Hb3.out.block _ hs1).trans Hz1.out
             have ht3 : w3.heap[w1.heap.size]? = some (.cells #[.int .i64 d.st, .slice q.a1 d.se.length q.c1, .slice q.a2 d.sd.length q.c2, .slice q.a3 d.sx.length q.c3, .slice q.a4 d.rv.length q.c4] 26 (0, 0)) := (hb3.block _ (by first | (simp; done) | (simp; omega))).trans (heap_alloc_new w1 _)
             have Hown3 : Hid (OwnD w3 (w.heap.size + 2) q d) := Lib.hid (Hown1.out.below Hb3.out)
             have hs3 : w1.heap.size < w3.heap.size := (by have := hb3.size; simp at this; omega)
             have Hz3 := Lib.hid hz3
             have Ht3 := Lib.hid ht3
             have HB3 : Hid (Below w.heap.size w w3) := Lib.hid (Hb1.out.trans (Hb3.out.mono hs1''))
             have c30 := cell_of_row w3 (w.heap.size) 0 _ _ _ hr3; have c31 := cell_of_row w3 (w.heap.size) 1 _ _ _ hr3; have c32 := cell_of_row w3 (w.heap.size) 2 _ _ _ hr3; have c33 := cell_of_row w3 (w.heap.size) 3 _ _ _ hr3; have c34 := cell_of_row w3 (w.heap.size) 4 _ _ _ hr3; have t30 := cell_of_row w3 (w1.heap.size) 0 _ _ _ ht3; have t31 := cell_of_row w3 (w1.heap.size) 1 _ _ _ ht3; have t32 := cell_of_row w3 (w1.heap.size) 2 _ _ _ ht3; have t33 := cell_of_row w3 (w1.heap.size) 3 _ _ _ ht3; have t34 := cell_of_row w3 (w1.heap.size) 4 _ _ _ ht3; have z30 := cell_of_row w3 (w.heap.size + 1) 0 _ _ _ hz3; have z31 := cell_of_row w3 (w.heap.size + 1) 1 _ _ _ hz3; have z32 := cell_of_row w3 (w.heap.size + 1) 2 _ _ _ hz3; have z33 := cell_of_row w3 (w.heap.size + 1) 3 _ _ _ hz3; have z34 := cell_of_row w3 (w.heap.size + 1) 4 _ _ _ hz3; have g30 := frozen_of_row w3 (w.heap.size + 1) 0 _ _ hz3; have g31 := frozen_of_row w3 (w.heap.size + 1) 1 _ _ hz3; have g32 := frozen_of_row w3 (w.heap.size + 1) 2 _ _ hz3; have g33 := frozen_of_row w3 (w.heap.size + 1) 3 _ _ hz3; have g34 := frozen_of_row w3 (w.heap.size + 1) 4 _ _ hz3; have u30 := frozen_of_row w3 (w1.heap.size) 0 _ _ ht3; have u31 := frozen_of_row w3 (w1.heap.size) 1 _ _ ht3; have u32 := frozen_of_row w3 (w1.heap.size) 2 _ _ ht3; have u33 := frozen_of_row w3 (w1.heap.size) 3 _ _ ht3; have u34 := frozen_of_row w3 (w1.heap.size) 4 _ _ ht3;
               clear hb3 hr3 hz3 ht3)
          | fail)
        have hz5 := box5 (x := .int .i64 (d.st)) (y := .slice q.a1 d.se.length q.c1) (z := .slice q.a2 d.sd.length q.c2) (u := .slice q.a3 d.sx.length q.c3) (v := .slice q.a4 d.rv.length q.c4) Hz3.out
        have y0 := cell_of_row _ _ 0 _ _ _ hz5
        have y1 := cell_of_row _ _ 1 _ _ _ hz5
        have y2 := cell_of_row _ _ 2 _ _ _ hz5
        have y3 := cell_of_row _ _ 3 _ _ _ hz5
        have y4 := cell_of_row _ _ 4 _ _ _ hz5
        refine bodyPost_ret (v := .tuple #[.agg #[.int .i64 (d.st), .slice q.a1 d.se.length q.c1, .slice q.a2 d.sd.length q.c2, .slice q.a3 d.sx.length q.c3, .slice q.a4 d.rv.length q.c4], .int .i64 63]) (by simp [results, Try.results17, go_sem, *]) rfl ?_
        exact ⟨q, rfl, ((Hown3.out).old box5_only (by omega)).rebase (by omega), box5_below HB3.out (by omega)⟩
      · obtain ⟨n, rfl⟩ := Int.eq_ofNat_of_zero_le (show 0 ≤ k by omega)
        have hn2 : n < d.sd.length := by omega
        obtain ⟨b2, o2, e2, hb2, cs2⟩ := h.s2.at n hn2
        have He2 := Lib.hid e2
        have Hcs2 := Lib.hid cs2
        have hkl2 : (n : Int) < (d.sd.length : Int) := by omega
        have hk00 : (0 : Int) ≤ (n : Int) := by omega
        have hg : noSeal d (n : Int) = d.sd[n] := by
          have a1 : ¬ (n : Int) < 0 := by omega
          have a2 : ¬ (d.sd.length : Int) ≤ (n : Int) := by omega
          simp [noSeal, List.getD_eq_getElem?_getD, hn2]; omega
        cases hsd : d.sd[n] with
        | true =>
          have e0 : commitD d n s = (d, 63) := by rw [Hn.out, hu, if_pos rfl, hg, hsd, if_pos rfl]
          rw [e0]
          rw [hsd] at Hcs2
          clear e0 hu Hn h x1 x2 x3 x4 x5 x6 x7 hsd hg cs2 e2 hk0 hkl
          go_enter Try.func17, Try.ntmps17
          go_wp2_with (first
            | (go_at_call 43
               refine (clone_any p d _ (H.out.below (by repeat' (first | with_reducible exact Below.refl _ _ | with_reducible refine below_drewN ?_ _ | with_reducible refine Below.drew ?_ | with_reducible refine Below.alloc ?_ ?_ _ | with_reducible refine Below.setCell ?_ ?_ _ | with_reducible refine Below.trans ?_ (Below.mono (by with_reducible assumption) ?_) | (simp; done) | (simp; omega) | omega))) hl).mono ?_
               rintro e w1 ⟨q, rfl, hown1, hb1⟩
               have hr1 : w1.heap[w.heap.size]? = some (.cells #[.int .i64 d.st, .slice p.a1 d.se.length p.c1, .slice p.a2 d.sd.length p.c2, .slice p.a3 d.sx.length p.c3, .slice p.a4 d.rv.length p.c4] 26 (0, 0)) := (hb1.block _ (by first | (simp; done) | (simp; omega))).trans ((Below.heap_alloc _ _ _ (by first | (simp; done) | (simp; omega))).trans (heap_alloc_new w _))
               have hz1 : w1.heap[w.heap.size + 1]? = some (.cells #[.int .i64 0, .slice none 0 0, .slice none 0 0, .slice none 0 0, .slice none 0 0] 26 (0, 0)) := (hb1.block _ (by first | (simp; done) | (simp; omega))).trans (by have := heap_alloc2_new w (.cells #[.int .i64 d.st, .slice p.a1 d.se.length p.c1, .slice p.a2 d.sd.length p.c2, .slice p.a3 d.sx.length p.c3, .slice p.a4 d.rv.length p.c4] 26) (.cells #[.int .i64 0, .slice none 0 0, .slice none 0 0, .slice none 0 0, .slice none 0 0] 26); exact this)
               have hs1 : w.heap.size + 1 < w1.heap.size := (by have := hb1.size; simp at this; omega)
               have hs1' : w.heap.size < w1.heap.size := Nat.lt_trans (Nat.lt_succ_self _) hs1
               have hs1'' : w.heap.size ≤ w1.heap.size := Nat.le_of_lt hs1'
               have Hb1 : Hid (Below w.heap.size w w1) := Lib.hid (show Below w.heap.size w w1 from (by have hbq := hb1; exact (by repeat' (first | with_reducible exact Below.refl _ _ | with_reducible assumption | with_reducible refine below_drewN ?_ _ | with_reducible refine Below.drew ?_ | with_reducible refine Below.alloc ?_ ?_ _ | with_reducible refine Below.setCell ?_ ?_ _ | with_reducible refine Below.trans ?_ (Below.mono (by with_reducible assumption) ?_) | with_reducible refine below_only ?_ (by with_reducible assumption) ?_ ?_ | (simp; done) | (simp; omega) | omega))))
               have Hown1 : Hid (OwnD w1 (w.heap.size + 2) q d) := Lib.hid (hown1.rebase (by first | (simp; done) | (simp; omega)))
               have Hr1 := Lib.hid hr1
               have Hz1 := Lib.hid hz1
               have c10 := cell_of_row w1 (w.heap.size) 0 _ _ _ hr1; have c11 := cell_of_row w1 (w.heap.size) 1 _ _ _ hr1; have c12 := cell_of_row w1 (w.heap.size) 2 _ _ _ hr1; have c13 := cell_of_row w1 (w.heap.size) 3 _ _ _ hr1; have c14 := cell_of_row w1 (w.heap.size) 4 _ _ _ hr1;
               clear hown1 hb1 hr1 hz1)
            | (go_at_call 44
               refine (usable_any p d 1 _ (H.out.below (Hb1.out.trans (Below.mono (show Below w1.heap.size w1 _ from (by repeat' (first | with_reducible exact Below.refl _ _ | with_reducible refine below_drewN ?_ _ | with_reducible refine Below.drew ?_ | with_reducible refine Below.alloc ?_ ?_ _ | with_reducible refine Below.setCell ?_ ?_ _ | with_reducible refine Below.trans ?_ (Below.mono (by with_reducible assumption) ?_) | (simp; done) | (simp; omega) | omega))) hs1'')))).mono ?_
               rintro e w3 ⟨rfl, hb3⟩
               rw [HU.out]
               have Hb3 : Hid (Below w1.heap.size w1 w3) := Lib.hid (show Below w1.heap.size w1 w3 from (by have hbq := hb3; exact (by repeat' (first | with_reducible exact Below.refl _ _ | with_reducible assumption | with_reducible refine below_drewN ?_ _ | with_reducible refine Below.drew ?_ | with_reducible refine Below.alloc ?_ ?_ _ | with_reducible refine Below.setCell ?_ ?_ _ | with_reducible refine Below.trans ?_ (Below.mono (by with_reducible assumption) ?_) | with_reducible refine below_only ?_ (by with_reducible assumption) ?_ ?_ | (simp; done) | (simp; omega) | omega))))
               have hr3 : w3.heap[w.heap.size]? = some (.cells #[.int .i64 d.st, .slice p.a1 d.se.length p.c1, .slice p.a2 d.sd.length p.c2, .slice p.a3 d.sx.length p.c3, .slice p.a4 d.rv.length p.c4] 26 (0, 0)) := (Hb3.out.block _ hs1').trans Hr1.out
               have hz3 : w3.heap[w.heap.size + 1]? = some (.cells #[.int .i64 0, .slice none 0 0, .slice none 0 0, .slice none 0 0, .slice none 0 0] 26 (0, 0)) := (Hb3.out.block _ hs1).trans Hz1.out
               have ht3 : w3.heap[w1.heap.size]? = some (.cells #[.int .i64 d.st, .slice q.a1 d.se.length q.c1, .slice q.a2 d.sd.length q.c2, .slice q.a3 d.sx.length q.c3, .slice q.a4 d.rv.length q.c4] 26 (0, 0)) := (hb3.block _ (by first | (simp; done) | (simp; omega))).trans (heap_alloc_new w1 _)
               have Hown3 : Hid (OwnD w3 (w.heap.size + 2) q d) := Lib.hid (Hown1.out.below Hb3.out)
               have hs3 : w1.heap.size < w3.heap.size := (by have := hb3.size; simp at this; omega)
               have Hz3 := Lib.hid hz3
               have Ht3 := Lib.hid ht3
               have HB3 : Hid (Below w.heap.size w w3) := Lib.hid (Hb1.out.trans (Hb3.out.mono hs1''))
               have c30 := cell_of_row w3 (w.heap.size) 0 _ _ _ hr3; have c31 := cell_of_row w3 (w.heap.size) 1 _ _ _ hr3; have c32 := cell_of_row w3 (w.heap.size) 2 _ _ _ hr3; have c33 := cell_of_row w3 (w.heap.size) 3 _ _ _ hr3; have c34 := cell_of_row w3 (w.heap.size) 4 _ _ _ hr3; have t30 := cell_of_row w3 (w1.heap.size) 0 _ _ _ ht3; have t31 := cell_of_row w3 (w1.heap.size) 1 _ _ _ ht3; have t32 := cell_of_row w3 (w1.heap.size) 2 _ _ _ ht3; have t33 := cell_of_row w3 (w1.heap.size) 3 _ _ _ ht3; have t34 := cell_of_row w3 (w1.heap.size) 4 _ _ _ ht3; have z30 := cell_of_row w3 (w.heap.size + 1) 0 _ _ _ hz3; have z31 := cell_of_row w3 (w.heap.size + 1) 1 _ _ _ hz3; have z32 := cell_of_row w3 (w.heap.size + 1) 2 _ _ _ hz3; have z33 := cell_of_row w3 (w.heap.size + 1) 3 _ _ _ hz3; have z34 := cell_of_row w3 (w.heap.size + 1) 4 _ _ _ hz3; have g30 := frozen_of_row w3 (w.heap.size + 1) 0 _ _ hz3; have g31 := frozen_of_row w3 (w.heap.size + 1) 1 _ _ hz3; have g32 := frozen_of_row w3 (w.heap.size + 1) 2 _ _ hz3; have g33 := frozen_of_row w3 (w.heap.size + 1) 3 _ _ hz3; have g34 := frozen_of_row w3 (w.heap.size + 1) 4 _ _ hz3; have u30 := frozen_of_row w3 (w1.heap.size) 0 _ _ ht3; have u31 := frozen_of_row w3 (w1.heap.size) 1 _ _ ht3; have u32 := frozen_of_row w3 (w1.heap.size) 2 _ _ ht3; have u33 := frozen_of_row w3 (w1.heap.size) 3 _ _ ht3; have u34 := frozen_of_row w3 (w1.heap.size) 4 _ _ ht3;
               rw [He2.out] at c32
               have cs3 := (HB3.out.cell (p := ⟨b2, o2 + n, none⟩) hb2).trans Hcs2.out
               clear hb3 hr3 hz3 ht3)
            | fail)
          have hz5 := box5 (x := .int .i64 (d.st)) (y := .slice q.a1 d.se.length q.c1) (z := .slice q.a2 d.sd.length q.c2) (u := .slice q.a3 d.sx.length q.c3) (v := .slice q.a4 d.rv.length q.c4) Hz3.out
          have y0 := cell_of_row _ _ 0 _ _ _ hz5
          have y1 := cell_of_row _ _ 1 _ _ _ hz5
          have y2 := cell_of_row _ _ 2 _ _ _ hz5
          have y3 := cell_of_row _ _ 3 _ _ _ hz5
          have y4 := cell_of_row _ _ 4 _ _ _ hz5
          refine bodyPost_ret (v := .tuple #[.agg #[.int .i64 (d.st), .slice q.a1 d.se.length q.c1, .slice q.a2 d.sd.length q.c2, .slice q.a3 d.sx.length q.c3, .slice q.a4 d.rv.length q.c4], .int .i64 63]) (by simp [results, Try.results17, go_sem, *]) rfl ?_
          exact ⟨q, rfl, ((Hown3.out).old box5_only (by omega)).rebase (by omega), box5_below HB3.out (by omega)⟩
        | false =>
          have e0 : commitD d n s = ({ d with se := d.se.set n s, sd := d.sd.set n true }, 0) := by rw [Hn.out, hu, if_pos rfl, hg, hsd, if_neg (by simp)]; rfl
          rw [e0]
          rw [hsd] at Hcs2
          have hn1 : n < d.se.length := by omega
          have hn1' : (n : Int) < (d.se.length : Int) := by omega
          have m1 : (d.se.map (Value.int .u64))[n]? = some (.int .u64 d.se[n]) := by simp [hn1]
          have m2 : (d.sd.map Value.bool)[n]? = some (.bool false) := by simp [hn2, hsd]
          have M1 := Lib.hid m1
          have M2 := Lib.hid m2
          clear e0 hu Hn h x1 x2 x3 x4 x5 x6 x7 hsd hg cs2 e2 hk0 hkl m1 m2
          go_enter Try.func17, Try.ntmps17
          go_wp2_with (first
            | (go_at_call 43
               refine (clone_any p d _ (H.out.below (by repeat' (first | with_reducible exact Below.refl _ _ | with_reducible refine below_drewN ?_ _ | with_reducible refine Below.drew ?_ | with_reducible refine Below.alloc ?_ ?_ _ | with_reducible refine Below.setCell ?_ ?_ _ | with_reducible refine Below.trans ?_ (Below.mono (by with_reducible assumption) ?_) | (simp; done) | (simp; omega) | omega))) hl).mono ?_
               rintro e w1 ⟨q, rfl, hown1, hb1⟩
               have hr1 : w1.heap[w.heap.size]? = some (.cells #[.int .i64 d.st, .slice p.a1 d.se.length p.c1, .slice p.a2 d.sd.length p.c2, .slice p.a3 d.sx.length p.c3, .slice p.a4 d.rv.length p.c4] 26 (0, 0)) := (hb1.block _ (by first | (simp; done) | (simp; omega))).trans ((Below.heap_alloc _ _ _ (by first | (simp; done) | (simp; omega))).trans (heap_alloc_new w _))
               have hz1 : w1.heap[w.heap.size + 1]? = some (.cells #[.int .i64 0, .slice none 0 0, .slice none 0 0, .slice none 0 0, .slice none 0 0] 26 (0, 0)) := (hb1.block _ (by first | (simp; done) | (simp; omega))).trans (by have := heap_alloc2_new w (.cells #[.int .i64 d.st, .slice p.a1 d.se.length p.c1, .slice p.a2 d.sd.length p.c2, .slice p.a3 d.sx.length p.c3, .slice p.a4 d.rv.length p.c4] 26) (.cells #[.int .i64 0, .slice none 0 0, .slice none 0 0, .slice none 0 0, .slice none 0 0] 26); exact this)
               have hs1 : w.heap.size + 1 < w1.heap.size := (by have := hb1.size; simp at this; omega)
               have hs1' : w.heap.size < w1.heap.size := Nat.lt_trans (Nat.lt_succ_self _) hs1
               have hs1'' : w.heap.size ≤ w1.heap.size := Nat.le_of_lt hs1'
               have Hb1 : Hid (Below w.heap.size w w1) := Lib.hid (show Below w.heap.size w w1 from (by have hbq := hb1; exact (by repeat' (first | with_reducible exact Below.refl _ _ | with_reducible assumption | with_reducible refine below_drewN ?_ _ | with_reducible refine Below.drew ?_ | with_reducible refine Below.alloc ?_ ?_ _ | with_reducible refine Below.setCell ?_ ?_ _ | with_reducible refine Below.trans ?_ (Below.mono (by with_reducible assumption) ?_) | with_reducible refine below_only ?_ (by with_reducible assumption) ?_ ?_ | (simp; done) | (simp; omega) | omega))))
               have Hown1 : Hid (OwnD w1 (w.heap.size + 2) q d) := Lib.hid (hown1.rebase (by first | (simp; done) | (simp; omega)))
               have Hr1 := Lib.hid hr1
               have Hz1 := Lib.hid hz1
               have c10 := cell_of_row w1 (w.heap.size) 0 _ _ _ hr1; have c11 := cell_of_row w1 (w.heap.size) 1 _ _ _ hr1; have c12 := cell_of_row w1 (w.heap.size) 2 _ _ _ hr1; have c13 := cell_of_row w1 (w.heap.size) 3 _ _ _ hr1; have c14 := cell_of_row w1 (w.heap.size) 4 _ _ _ hr1;
               clear hown1 hb1 hr1 hz1)
            | (go_at_call 44
               refine (usable_any p d 1 _ (H.out.below (Hb1.out.trans (Below.mono (show Below w1.heap.size w1 _ from (by repeat' (first | with_reducible exact Below.refl _ _ | with_reducible refine below_drewN ?_ _ | with_reducible refine Below.drew ?_ | with_reducible refine Below.alloc ?_ ?_ _ | with_reducible refine Below.setCell ?_ ?_ _ | with_reducible refine Below.trans ?_ (Below.mono (by with_reducible assumption) ?_) | (simp; done) | (simp; omega) | omega))) hs1'')))).mono ?_
               rintro e w3 ⟨rfl, hb3⟩
               rw [HU.out]
               have Hb3 : Hid (Below w1.heap.size w1 w3) := Lib.hid (show Below w1.heap.size w1 w3 from (by have hbq := hb3; exact (by repeat' (first | with_reducible exact Below.refl _ _ | with_reducible assumption | with_reducible refine below_drewN ?_ _ | with_reducible refine Below.drew ?_ | with_reducible refine Below.alloc ?_ ?_ _ | with_reducible refine Below.setCell ?_ ?_ _ | with_reducible refine Below.trans ?_ (Below.mono (by with_reducible assumption) ?_) | with_reducible refine below_only ?_ (by with_reducible assumption) ?_ ?_ | (simp; done) | (simp; omega) | omega))))
               have hr3 : w3.heap[w.heap.size]? = some (.cells #[.int .i64 d.st, .slice p.a1 d.se.length p.c1, .slice p.a2 d.sd.length p.c2, .slice p.a3 d.sx.length p.c3, .slice p.a4 d.rv.length p.c4] 26 (0, 0)) := (Hb3.out.block _ hs1').trans Hr1.out
               have hz3 : w3.heap[w.heap.size + 1]? = some (.cells #[.int .i64 0, .slice none 0 0, .slice none 0 0, .slice none 0 0, .slice none 0 0] 26 (0, 0)) := (Hb3.out.block _ hs1).trans Hz1.out
               have ht3 : w3.heap[w1.heap.size]? = some (.cells #[.int .i64 d.st, .slice q.a1 d.se.length q.c1, .slice q.a2 d.sd.length q.c2, .slice q.a3 d.sx.length q.c3, .slice q.a4 d.rv.length q.c4] 26 (0, 0)) := (hb3.block _ (by first | (simp; done) | (simp; omega))).trans (heap_alloc_new w1 _)
               have Hown3 : Hid (OwnD w3 (w.heap.size + 2) q d) := Lib.hid (Hown1.out.below Hb3.out)
               have hs3 : w1.heap.size < w3.heap.size := (by have := hb3.size; simp at this; omega)
               have Hz3 := Lib.hid hz3
               have Ht3 := Lib.hid ht3
               have HB3 : Hid (Below w.heap.size w w3) := Lib.hid (Hb1.out.trans (Hb3.out.mono hs1''))
               have c30 := cell_of_row w3 (w.heap.size) 0 _ _ _ hr3; have c31 := cell_of_row w3 (w.heap.size) 1 _ _ _ hr3; have c32 := cell_of_row w3 (w.heap.size) 2 _ _ _ hr3; have c33 := cell_of_row w3 (w.heap.size) 3 _ _ _ hr3; have c34 := cell_of_row w3 (w.heap.size) 4 _ _ _ hr3; have t30 := cell_of_row w3 (w1.heap.size) 0 _ _ _ ht3; have t31 := cell_of_row w3 (w1.heap.size) 1 _ _ _ ht3; have t32 := cell_of_row w3 (w1.heap.size) 2 _ _ _ ht3; have t33 := cell_of_row w3 (w1.heap.size) 3 _ _ _ ht3; have t34 := cell_of_row w3 (w1.heap.size) 4 _ _ _ ht3; have z30 := cell_of_row w3 (w.heap.size + 1) 0 _ _ _ hz3; have z31 := cell_of_row w3 (w.heap.size + 1) 1 _ _ _ hz3; have z32 := cell_of_row w3 (w.heap.size + 1) 2 _ _ _ hz3; have z33 := cell_of_row w3 (w.heap.size + 1) 3 _ _ _ hz3; have z34 := cell_of_row w3 (w.heap.size + 1) 4 _ _ _ hz3; have g30 := frozen_of_row w3 (w.heap.size + 1) 0 _ _ hz3; have g31 := frozen_of_row w3 (w.heap.size + 1) 1 _ _ hz3; have g32 := frozen_of_row w3 (w.heap.size + 1) 2 _ _ hz3; have g33 := frozen_of_row w3 (w.heap.size + 1) 3 _ _ hz3; have g34 := frozen_of_row w3 (w.heap.size + 1) 4 _ _ hz3; have u30 := frozen_of_row w3 (w1.heap.size) 0 _ _ ht3; have u31 := frozen_of_row w3 (w1.heap.size) 1 _ _ ht3; have u32 := frozen_of_row w3 (w1.heap.size) 2 _ _ ht3; have u33 := frozen_of_row w3 (w1.heap.size) 3 _ _ ht3; have u34 := frozen_of_row w3 (w1.heap.size) 4 _ _ ht3;
               rw [He2.out] at c32
               have cs3 := (HB3.out.cell (p := ⟨b2, o2 + n, none⟩) hb2).trans Hcs2.out
               obtain ⟨G1, gc1, hG1, hGb1, hGl1, _, _, hc1, hf1⟩ := own_at Hown3.out.o1 (by omega)
               injection hG1 with hq1 _ hqc1
               have Hq1 := Lib.hid hq1
               rw [hq1] at t31
               have d1 := hc1 _ _ M1.out
               have fr1 := hf1 n
               have hGw1 := Hown1.out.o1.lt G1 (by rw [hq1]; rfl)
               obtain ⟨G2, gc2, hG2, hGb2, hGl2, _, _, hc2, hf2⟩ := own_at Hown3.out.o2 (by omega)
               injection hG2 with hq2 _ hqc2
               have Hq2 := Lib.hid hq2
               rw [hq2] at t32
               have d2 := hc2 _ _ M2.out
               have fr2 := hf2 n
               have hGw2 := Hown1.out.o2.lt G2 (by rw [hq2]; rfl)
               have hG12 : G1 ≠ G2 := fun e => Hown3.out.n12 G1 (by rw [hq1]; rfl) (by rw [hq2, e]; rfl)
               clear hc1 hf1 hc2 hf2 hq1 hq2 hqc1 hqc2
               clear hb3 hr3 hz3 ht3)
            | fail)
          go_cut [] (fun wx => OwnD wx (w.heap.size + 2) q { d with se := d.se.set n s, sd := d.sd.set n true } ∧ wx.heap[w.heap.size + 1]? = some (.cells #[.int .i64 0, .slice none 0 0, .slice none 0 0, .slice none 0 0, .slice none 0 0] 26 (0, 0)) ∧ wx.heap[w1.heap.size]? = some (.cells #[.int .i64 d.st, .slice q.a1 d.se.length q.c1, .slice q.a2 d.sd.length q.c2, .slice q.a3 d.sx.length q.c3, .slice q.a4 d.rv.length q.c4] 26 (0, 0)) ∧ Below w.heap.size w wx)
          case first =>
            have hq1 := Hq1.out
            have hq2 := Hq2.out
            clear hq1 hq2
            go_region
            all_goals go_wp2
            all_goals go_meet
            all_goals first
              | exact ⟨((Hown3.out.set1 Hq1.out n s).set2 Hq2.out n true).drew, (Below.heap_setCell _ _ _ _ (by simp; omega)).trans ((Below.heap_setCell _ _ _ _ (by simp; omega)).trans Hz3.out), (Below.heap_setCell _ _ _ _ (by simp; omega)).trans ((Below.heap_setCell _ _ _ _ (by simp; omega)).trans Ht3.out), Below.drew ((HB3.out.setCell (by simp; omega) _).setCell (by simp; omega) _)⟩
              | exact ⟨((Hown3.out.set2 Hq2.out n true).set1 Hq1.out n s).drew, (Below.heap_setCell _ _ _ _ (by simp; omega)).trans ((Below.heap_setCell _ _ _ _ (by simp; omega)).trans Hz3.out), (Below.heap_setCell _ _ _ _ (by simp; omega)).trans ((Below.heap_setCell _ _ _ _ (by simp; omega)).trans Ht3.out), Below.drew ((HB3.out.setCell (by simp; omega) _).setCell (by simp; omega) _)⟩
          case rest =>
            obtain ⟨wx, rfl⟩ : ∃ wx : World, wx = wc := ⟨_, rfl⟩
            obtain ⟨hox, hzx, htx, hbx⟩ := hcut
            have Hox := Lib.hid hox
            have Hzx := Lib.hid hzx
            have Hbx := Lib.hid hbx
            have tx0 := cell_of_row wx (w1.heap.size) 0 _ _ _ htx; have tx1 := cell_of_row wx (w1.heap.size) 1 _ _ _ htx; have tx2 := cell_of_row wx (w1.heap.size) 2 _ _ _ htx; have tx3 := cell_of_row wx (w1.heap.size) 3 _ _ _ htx; have tx4 := cell_of_row wx (w1.heap.size) 4 _ _ _ htx; have zx0 := cell_of_row wx (w.heap.size + 1) 0 _ _ _ hzx; have zx1 := cell_of_row wx (w.heap.size + 1) 1 _ _ _ hzx; have zx2 := cell_of_row wx (w.heap.size + 1) 2 _ _ _ hzx; have zx3 := cell_of_row wx (w.heap.size + 1) 3 _ _ _ hzx; have zx4 := cell_of_row wx (w.heap.size + 1) 4 _ _ _ hzx; have gx0 := frozen_of_row wx (w.heap.size + 1) 0 _ _ hzx; have gx1 := frozen_of_row wx (w.heap.size + 1) 1 _ _ hzx; have gx2 := frozen_of_row wx (w.heap.size + 1) 2 _ _ hzx; have gx3 := frozen_of_row wx (w.heap.size + 1) 3 _ _ hzx; have gx4 := frozen_of_row wx (w.heap.size + 1) 4 _ _ hzx;
            clear hox hzx htx hbx
            go_wp2
            have hz5 := box5 (x := .int .i64 (d.st)) (y := .slice q.a1 d.se.length q.c1) (z := .slice q.a2 d.sd.length q.c2) (u := .slice q.a3 d.sx.length q.c3) (v := .slice q.a4 d.rv.length q.c4) Hzx.out
            have y0 := cell_of_row _ _ 0 _ _ _ hz5
            have y1 := cell_of_row _ _ 1 _ _ _ hz5
            have y2 := cell_of_row _ _ 2 _ _ _ hz5
            have y3 := cell_of_row _ _ 3 _ _ _ hz5
            have y4 := cell_of_row _ _ 4 _ _ _ hz5
            refine bodyPost_ret (v := .tuple #[.agg #[.int .i64 (d.st), .slice q.a1 d.se.length q.c1, .slice q.a2 d.sd.length q.c2, .slice q.a3 d.sx.length q.c3, .slice q.a4 d.rv.length q.c4], .int .i64 0]) (by simp [results, Try.results17, go_sem, *]) rfl ?_
            exact ⟨q, by simp, ((Hox.out).old box5_only (by omega)).rebase (by omega), box5_below Hbx.out (by omega)⟩
  · have e0 : commitD d k s = (d, u) := by rw [Hn.out, hu, if_neg h0]
    rw [e0]
    clear e0 hu Hn h
    go_enter Try.func17, Try.ntmps17
    go_wp2_with (first
      | (go_at_call 43
         refine (clone_any p d _ (H.out.below (by repeat' (first | with_reducible exact Below.refl _ _ | with_reducible refine below_drewN ?_ _ | with_reducible refine Below.drew ?_ | with_reducible refine Below.alloc ?_ ?_ _ | with_reducible refine Below.setCell ?_ ?_ _ | with_reducible refine Below.trans ?_ (Below.mono (by with_reducible assumption) ?_) | (simp; done) | (simp; omega) | omega))) hl).mono ?_
         rintro e w1 ⟨q, rfl, hown1, hb1⟩
         have hr1 : w1.heap[w.heap.size]? = some (.cells #[.int .i64 d.st, .slice p.a1 d.se.length p.c1, .slice p.a2 d.sd.length p.c2, .slice p.a3 d.sx.length p.c3, .slice p.a4 d.rv.length p.c4] 26 (0, 0)) := (hb1.block _ (by first | (simp; done) | (simp; omega))).trans ((Below.heap_alloc _ _ _ (by first | (simp; done) | (simp; omega))).trans (heap_alloc_new w _))
         have hz1 : w1.heap[w.heap.size + 1]? = some (.cells #[.int .i64 0, .slice none 0 0, .slice none 0 0, .slice none 0 0, .slice none 0 0] 26 (0, 0)) := (hb1.block _ (by first | (simp; done) | (simp; omega))).trans (by have := heap_alloc2_new w (.cells #[.int .i64 d.st, .slice p.a1 d.se.length p.c1, .slice p.a2 d.sd.length p.c2, .slice p.a3 d.sx.length p.c3, .slice p.a4 d.rv.length p.c4] 26) (.cells #[.int .i64 0, .slice none 0 0, .slice none 0 0, .slice none 0 0, .slice none 0 0] 26); exact this)
         have hs1 : w.heap.size + 1 < w1.heap.size := (by have := hb1.size; simp at this; omega)
         have hs1' : w.heap.size < w1.heap.size := Nat.lt_trans (Nat.lt_succ_self _) hs1
         have hs1'' : w.heap.size ≤ w1.heap.size := Nat.le_of_lt hs1'
         have Hb1 : Hid (Below w.heap.size w w1) := Lib.hid (show Below w.heap.size w w1 from (by have hbq := hb1; exact (by repeat' (first | with_reducible exact Below.refl _ _ | with_reducible assumption | with_reducible refine below_drewN ?_ _ | with_reducible refine Below.drew ?_ | with_reducible refine Below.alloc ?_ ?_ _ | with_reducible refine Below.setCell ?_ ?_ _ | with_reducible refine Below.trans ?_ (Below.mono (by with_reducible assumption) ?_) | with_reducible refine below_only ?_ (by with_reducible assumption) ?_ ?_ | (simp; done) | (simp; omega) | omega))))
         have Hown1 : Hid (OwnD w1 (w.heap.size + 2) q d) := Lib.hid (hown1.rebase (by first | (simp; done) | (simp; omega)))
         have Hr1 := Lib.hid hr1
         have Hz1 := Lib.hid hz1
         have c10 := cell_of_row w1 (w.heap.size) 0 _ _ _ hr1; have c11 := cell_of_row w1 (w.heap.size) 1 _ _ _ hr1; have c12 := cell_of_row w1 (w.heap.size) 2 _ _ _ hr1; have c13 := cell_of_row w1 (w.heap.size) 3 _ _ _ hr1; have c14 := cell_of_row w1 (w.heap.size) 4 _ _ _ hr1;
         clear hown1 hb1 hr1 hz1)
      | (go_at_call 44
         refine (usable_any p d 1 _ (H.out.below (Hb1.out.trans (Below.mono (show Below w1.heap.size w1 _ from (by repeat' (first | with_reducible exact Below.refl _ _ | with_reducible refine below_drewN ?_ _ | with_reducible refine Below.drew ?_ | with_reducible refine Below.alloc ?_ ?_ _ | with_reducible refine Below.setCell ?_ ?_ _ | with_reducible refine Below.trans ?_ (Below.mono (by with_reducible assumption) ?_) | (simp; done) | (simp; omega) | omega))) hs1'')))).mono ?_
         rintro e w3 ⟨rfl, hb3⟩
         rw [HU.out]
         have Hb3 : Hid (Below w1.heap.size w1 w3) := Lib.hid (show Below w1.heap.size w1 w3 from (by have hbq := hb3; exact (by repeat' (first | with_reducible exact Below.refl _ _ | with_reducible assumption | with_reducible refine below_drewN ?_ _ | with_reducible refine Below.drew ?_ | with_reducible refine Below.alloc ?_ ?_ _ | with_reducible refine Below.setCell ?_ ?_ _ | with_reducible refine Below.trans ?_ (Below.mono (by with_reducible assumption) ?_) | with_reducible refine below_only ?_ (by with_reducible assumption) ?_ ?_ | (simp; done) | (simp; omega) | omega))))
         have hr3 : w3.heap[w.heap.size]? = some (.cells #[.int .i64 d.st, .slice p.a1 d.se.length p.c1, .slice p.a2 d.sd.length p.c2, .slice p.a3 d.sx.length p.c3, .slice p.a4 d.rv.length p.c4] 26 (0, 0)) := (Hb3.out.block _ hs1').trans Hr1.out
         have hz3 : w3.heap[w.heap.size + 1]? = some (.cells #[.int .i64 0, .slice none 0 0, .slice none 0 0, .slice none 0 0, .slice none 0 0] 26 (0, 0)) := (Hb3.out.block _ hs1).trans Hz1.out
         have ht3 : w3.heap[w1.heap.size]? = some (.cells #[.int .i64 d.st, .slice q.a1 d.se.length q.c1, .slice q.a2 d.sd.length q.c2, .slice q.a3 d.sx.length q.c3, .slice q.a4 d.rv.length q.c4] 26 (0, 0)) := (hb3.block _ (by first | (simp; done) | (simp; omega))).trans (heap_alloc_new w1 _)
         have Hown3 : Hid (OwnD w3 (w.heap.size + 2) q d) := Lib.hid (Hown1.out.below Hb3.out)
         have hs3 : w1.heap.size < w3.heap.size := (by have := hb3.size; simp at this; omega)
         have Hz3 := Lib.hid hz3
         have Ht3 := Lib.hid ht3
         have HB3 : Hid (Below w.heap.size w w3) := Lib.hid (Hb1.out.trans (Hb3.out.mono hs1''))
         have c30 := cell_of_row w3 (w.heap.size) 0 _ _ _ hr3; have c31 := cell_of_row w3 (w.heap.size) 1 _ _ _ hr3; have c32 := cell_of_row w3 (w.heap.size) 2 _ _ _ hr3; have c33 := cell_of_row w3 (w.heap.size) 3 _ _ _ hr3; have c34 := cell_of_row w3 (w.heap.size) 4 _ _ _ hr3; have t30 := cell_of_row w3 (w1.heap.size) 0 _ _ _ ht3; have t31 := cell_of_row w3 (w1.heap.size) 1 _ _ _ ht3; have t32 := cell_of_row w3 (w1.heap.size) 2 _ _ _ ht3; have t33 := cell_of_row w3 (w1.heap.size) 3 _ _ _ ht3; have t34 := cell_of_row w3 (w1.heap.size) 4 _ _ _ ht3; have z30 := cell_of_row w3 (w.heap.size + 1) 0 _ _ _ hz3; have z31 := cell_of_row w3 (w.heap.size + 1) 1 _ _ _ hz3; have z32 := cell_of_row w3 (w.heap.size + 1) 2 _ _ _ hz3; have z33 := cell_of_row w3 (w.heap.size + 1) 3 _ _ _ hz3; have z34 := cell_of_row w3 (w.heap.size + 1) 4 _ _ _ hz3; have g30 := frozen_of_row w3 (w.heap.size + 1) 0 _ _ hz3; have g31 := frozen_of_row w3 (w.heap.size + 1) 1 _ _ hz3; have g32 := frozen_of_row w3 (w.heap.size + 1) 2 _ _ hz3; have g33 := frozen_of_row w3 (w.heap.size + 1) 3 _ _ hz3; have g34 := frozen_of_row w3 (w.heap.size + 1) 4 _ _ hz3; have u30 := frozen_of_row w3 (w1.heap.size) 0 _ _ ht3; have u31 := frozen_of_row w3 (w1.heap.size) 1 _ _ ht3; have u32 := frozen_of_row w3 (w1.heap.size) 2 _ _ ht3; have u33 := frozen_of_row w3 (w1.heap.size) 3 _ _ ht3; have u34 := frozen_of_row w3 (w1.heap.size) 4 _ _ ht3;
           clear hb3 hr3 hz3 ht3)
      | fail)
    have hz5 := box5 (x := .int .i64 (d.st)) (y := .slice q.a1 d.se.length q.c1) (z := .slice q.a2 d.sd.length q.c2) (u := .slice q.a3 d.sx.length q.c3) (v := .slice q.a4 d.rv.length q.c4) Hz3.out
    have y0 := cell_of_row _ _ 0 _ _ _ hz5
    have y1 := cell_of_row _ _ 1 _ _ _ hz5
    have y2 := cell_of_row _ _ 2 _ _ _ hz5
    have y3 := cell_of_row _ _ 3 _ _ _ hz5
    have y4 := cell_of_row _ _ 4 _ _ _ hz5
    refine bodyPost_ret (v := .tuple #[.agg #[.int .i64 (d.st), .slice q.a1 d.se.length q.c1, .slice q.a2 d.sd.length q.c2, .slice q.a3 d.sx.length q.c3, .slice q.a4 d.rv.length q.c4], .int .i64 u]) (by simp [results, Try.results17, go_sem, *]) rfl ?_
    exact ⟨q, rfl, ((Hown3.out).old box5_only (by omega)).rebase (by omega), box5_below HB3.out (by omega)⟩
end Go.Proofs.Ytbkkmgofjhaaoaa
