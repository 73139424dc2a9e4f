/- Contracts: Commit (the reference of draw). -/
import Derived.Test.YtbkkmgofjhaaoaaDA
namespace Go.Proofs.Ytbkkmgofjhaaoaa
open Go.RowKit
set_option linter.unusedVariables false
set_option linter.unusedSimpArgs false

set_option maxHeartbeats 8000000 in
set_option maxRecDepth 100000 in
theorem commitR_any (p : DV) (d : Dr) (k s : Int) (w : World) (h : DrAt w p d) (hl : d.small) : Calls Try.prog 18 #[.agg #[.int .i64 d.st, .slice p.a1 d.se.length p.c1, .slice p.a2 d.sd.length p.c2, .slice p.a3 d.sx.length p.c3, .slice p.a4 d.rv.length p.c4], .int .i64 k, .int .u64 s] w (DrRPost w p d (commitD d k s)) := by
  have H := Lib.hid h
  have Hn : Hid (commitD d k s = if usableD d 1 = 0 then (if noSeal d k then (d, 63) else ({ d with se := d.se.set k.toNat s, sd := d.sd.set k.toNat true }, 0)) else (d, usableD d 1)) := Lib.hid rfl
  have Hu : Hid (usableD d 1 = if checkD d = 0 then (if d.st = 1 then 0 else 61) else checkD d) := Lib.hid rfl
  rcases checkD_two d with hc | hc
  · have HC := Lib.hid hc
    by_cases hs : d.st = 1
    · have hu : usableD d 1 = 0 := by rw [Hu.out, hc, if_pos rfl, if_pos hs]
      obtain ⟨x1, x2, x3, x4, x5, x6, x7⟩ := usable_lens hu
      have HCk : Hid (∀ W, DrAt W p d → Calls Try.prog 16 #[.agg #[.int .i64 1, .slice p.a1 d.se.length p.c1, .slice p.a2 d.sd.length p.c2, .slice p.a3 d.sx.length p.c3, .slice p.a4 d.rv.length p.c4]] W fun e w' => e = .returned (.int .i64 0) ∧ Below W.heap.size W w') := Lib.hid (fun W hW => by have := checkR_any p d W hW; rw [hc, hs] at this; exact this)
      have HCp : Hid (∀ W, DrAt W p d → Calls Try.prog 45 #[.agg #[.int .i64 1, .slice p.a1 d.se.length p.c1, .slice p.a2 d.sd.length p.c2, .slice p.a3 d.sx.length p.c3, .slice p.a4 d.rv.length p.c4]] W (DrPost W d)) := Lib.hid (fun W hW => by have := copied_any p d W hW hl; rw [hs] at this; exact this)
      by_cases hk0 : k < 0
      · have e0 : commitD d k s = (d, 63) := by rw [Hn.out, hu, if_pos rfl, if_pos (by simp [noSeal, hk0])]
        rw [e0]
        clear e0 hu Hn Hu h x1 x2 x3 x4 x5 x6 x7 hc
        go_enter Try.func18, Try.ntmps18
        go_wp2_with (first
          | (go_at_call 16
             refine (HCk.out _ (H.out.below (by repeat' (first | with_reducible exact Below.refl _ _ | with_reducible refine below_drewN ?_ _ | with_reducible refine Below.drew ?_ | with_reducible refine Below.alloc ?_ ?_ _ | with_reducible refine Below.setCell ?_ ?_ _ | with_reducible refine Below.trans ?_ (Below.mono (by with_reducible assumption) ?_) | (simp; done) | (simp; omega) | omega)))).mono ?_
             rintro e w1 ⟨rfl, hb1⟩
             have hr1 : w1.heap[w.heap.size]? = some (.cells #[.int .i64 1, .slice p.a1 d.se.length p.c1, .slice p.a2 d.sd.length p.c2, .slice p.a3 d.sx.length p.c3, .slice p.a4 d.rv.length p.c4] 26 (0, 0)) := (hb1.block _ (by first | (simp; done) | (simp; omega))).trans ((Below.heap_alloc _ _ _ (by first | (simp; done) | (simp; omega))).trans (heap_alloc_new w _))
             have hz1 : w1.heap[w.heap.size + 1]? = some (.cells #[.int .i64 0, .slice none 0 0, .slice none 0 0, .slice none 0 0, .slice none 0 0] 26 (0, 0)) := (hb1.block _ (by first | (simp; done) | (simp; omega))).trans (by have := heap_alloc2_new w (.cells #[.int .i64 1, .slice p.a1 d.se.length p.c1, .slice p.a2 d.sd.length p.c2, .slice p.a3 d.sx.length p.c3, .slice p.a4 d.rv.length p.c4] 26) (.cells #[.int .i64 0, .slice none 0 0, .slice none 0 0, .slice none 0 0, .slice none 0 0] 26); exact this)
             have hs1 : w.heap.size + 1 < w1.heap.size := (by have := hb1.size; simp at this; omega)
             have hs1' : w.heap.size < w1.heap.size := Nat.lt_trans (Nat.lt_succ_self _) hs1
             have hs1'' : w.heap.size ≤ w1.heap.size := Nat.le_of_lt hs1'
             have HB1 : Hid (Below w.heap.size w w1) := Lib.hid (show Below w.heap.size w w1 from (by have hbq := hb1; exact (by repeat' (first | with_reducible exact Below.refl _ _ | with_reducible assumption | with_reducible refine below_drewN ?_ _ | with_reducible refine Below.drew ?_ | with_reducible refine Below.alloc ?_ ?_ _ | with_reducible refine Below.setCell ?_ ?_ _ | with_reducible refine Below.trans ?_ (Below.mono (by with_reducible assumption) ?_) | with_reducible refine below_only ?_ (by with_reducible assumption) ?_ ?_ | (simp; done) | (simp; omega) | omega))))
             have Hr1 := Lib.hid hr1
             have Hz1 := Lib.hid hz1
             have c10 := cell_of_row w1 (w.heap.size) 0 _ _ _ hr1; have c11 := cell_of_row w1 (w.heap.size) 1 _ _ _ hr1; have c12 := cell_of_row w1 (w.heap.size) 2 _ _ _ hr1; have c13 := cell_of_row w1 (w.heap.size) 3 _ _ _ hr1; have c14 := cell_of_row w1 (w.heap.size) 4 _ _ _ hr1; have z10 := cell_of_row w1 (w.heap.size + 1) 0 _ _ _ hz1; have z11 := cell_of_row w1 (w.heap.size + 1) 1 _ _ _ hz1; have z12 := cell_of_row w1 (w.heap.size + 1) 2 _ _ _ hz1; have z13 := cell_of_row w1 (w.heap.size + 1) 3 _ _ _ hz1; have z14 := cell_of_row w1 (w.heap.size + 1) 4 _ _ _ hz1; have g10 := frozen_of_row w1 (w.heap.size + 1) 0 _ _ hz1; have g11 := frozen_of_row w1 (w.heap.size + 1) 1 _ _ hz1; have g12 := frozen_of_row w1 (w.heap.size + 1) 2 _ _ hz1; have g13 := frozen_of_row w1 (w.heap.size + 1) 3 _ _ hz1; have g14 := frozen_of_row w1 (w.heap.size + 1) 4 _ _ hz1;
               clear hb1 hr1 hz1)
          | (go_at_call 45
             refine (HCp.out _ (H.out.below (HB1.out.trans ((show Below w1.heap.size w1 _ from (by repeat' (first | with_reducible exact Below.refl _ _ | with_reducible refine below_drewN ?_ _ | with_reducible refine Below.drew ?_ | with_reducible refine Below.alloc ?_ ?_ _ | with_reducible refine Below.setCell ?_ ?_ _ | with_reducible refine Below.trans ?_ (Below.mono (by with_reducible assumption) ?_) | (simp; done) | (simp; omega) | omega))).mono hs1'')))).mono ?_
             rintro e w3 ⟨q, rfl, hown3, hb3⟩
             have Hown3 : Hid (OwnD w3 (w.heap.size + 2) q d) := Lib.hid (hown3.rebase (by have := hs1; first | omega | (simp; omega)))
             have Hb3 : Hid (Below w1.heap.size w1 w3) := Lib.hid (show Below w1.heap.size w1 w3 from (by have hbq := hb3; exact (by repeat' (first | with_reducible exact Below.refl _ _ | with_reducible assumption | with_reducible refine below_drewN ?_ _ | with_reducible refine Below.drew ?_ | with_reducible refine Below.alloc ?_ ?_ _ | with_reducible refine Below.setCell ?_ ?_ _ | with_reducible refine Below.trans ?_ (Below.mono (by with_reducible assumption) ?_) | with_reducible refine below_only ?_ (by with_reducible assumption) ?_ ?_ | (simp; done) | (simp; omega) | omega))))
             have hs3 : w1.heap.size ≤ w3.heap.size := Hb3.out.size
             have HB4 : Hid (Below w.heap.size w (w3.alloc (.cells #[.int .i64 1, .slice q.a1 d.se.length q.c1, .slice q.a2 d.sd.length q.c2, .slice q.a3 d.sx.length q.c3, .slice q.a4 d.rv.length q.c4] 26))) := Lib.hid ((HB1.out.trans (Hb3.out.mono hs1'')).alloc (Nat.le_trans hs1'' hs3) _)
             have hz4 : (w3.alloc (.cells #[.int .i64 1, .slice q.a1 d.se.length q.c1, .slice q.a2 d.sd.length q.c2, .slice q.a3 d.sx.length q.c3, .slice q.a4 d.rv.length q.c4] 26)).heap[w.heap.size + 1]? = some (.cells #[.int .i64 0, .slice none 0 0, .slice none 0 0, .slice none 0 0, .slice none 0 0] 26 (0, 0)) := (Below.heap_alloc _ _ _ (by omega)).trans ((Hb3.out.block _ hs1).trans Hz1.out)
             have ht4 : (w3.alloc (.cells #[.int .i64 1, .slice q.a1 d.se.length q.c1, .slice q.a2 d.sd.length q.c2, .slice q.a3 d.sx.length q.c3, .slice q.a4 d.rv.length q.c4] 26)).heap[w3.heap.size]? = some (.cells #[.int .i64 1, .slice q.a1 d.se.length q.c1, .slice q.a2 d.sd.length q.c2, .slice q.a3 d.sx.length q.c3, .slice q.a4 d.rv.length q.c4] 26 (0, 0)) := heap_alloc_new w3 _
             have hs4 : w3.heap.size < (w3.alloc (.cells #[.int .i64 1, .slice q.a1 d.se.length q.c1, .slice q.a2 d.sd.length q.c2, .slice q.a3 d.sx.length q.c3, .slice q.a4 d.rv.length q.c4] 26)).heap.size := by simp
             have Hown4 : Hid (OwnD (w3.alloc (.cells #[.int .i64 1, .slice q.a1 d.se.length q.c1, .slice q.a2 d.sd.length q.c2, .slice q.a3 d.sx.length q.c3, .slice q.a4 d.rv.length q.c4] 26)) (w.heap.size + 2) q d) := Lib.hid (Hown3.out.below (Below.alloc (Below.refl _ _) (Nat.le_refl _) _))
             have Hz4 := Lib.hid hz4
             have Ht4 := Lib.hid ht4
             clear hown3 hb3 hz4 ht4)
          | fail)
        have hz5 := box5 (x := .int .i64 (1)) (y := .slice p.a1 d.se.length p.c1) (z := .slice p.a2 d.sd.length p.c2) (u := .slice p.a3 d.sx.length p.c3) (v := .slice p.a4 d.rv.length p.c4) Hz1.out
        have y0 := cell_of_row _ _ 0 _ _ _ hz5
        have y1 := cell_of_row _ _ 1 _ _ _ hz5
        have y2 := cell_of_row _ _ 2 _ _ _ hz5
        have y3 := cell_of_row _ _ 3 _ _ _ hz5
        have y4 := cell_of_row _ _ 4 _ _ _ hz5
        refine bodyPost_ret (v := .tuple #[.agg #[.int .i64 (1), .slice p.a1 d.se.length p.c1, .slice p.a2 d.sd.length p.c2, .slice p.a3 d.sx.length p.c3, .slice p.a4 d.rv.length p.c4], .int .i64 63]) (by simp [results, Try.results18, go_sem, *]) rfl ?_
        exact ⟨p, by simp [hs], .inl ⟨rfl, rfl⟩, box5_below HB1.out (by omega)⟩
      · by_cases hkl : (d.sd.length : Int) ≤ k
        · have e0 : commitD d k s = (d, 63) := by rw [Hn.out, hu, if_pos rfl, if_pos (by simp [noSeal, hkl])]
          rw [e0]
          have hkl1 : (d.se.length : Int) ≤ k := by omega
          clear e0 hu Hn Hu h x1 x2 x3 x4 x5 x6 x7 hkl hc
          go_enter Try.func18, Try.ntmps18
          go_wp2_with (first
            | (go_at_call 16
               refine (HCk.out _ (H.out.below (by repeat' (first | with_reducible exact Below.refl _ _ | with_reducible refine below_drewN ?_ _ | with_reducible refine Below.drew ?_ | with_reducible refine Below.alloc ?_ ?_ _ | with_reducible refine Below.setCell ?_ ?_ _ | with_reducible refine Below.trans ?_ (Below.mono (by with_reducible assumption) ?_) | (simp; done) | (simp; omega) | omega)))).mono ?_
               rintro e w1 ⟨rfl, hb1⟩
               have hr1 : w1.heap[w.heap.size]? = some (.cells #[.int .i64 1, .slice p.a1 d.se.length p.c1, .slice p.a2 d.sd.length p.c2, .slice p.a3 d.sx.length p.c3, .slice p.a4 d.rv.length p.c4] 26 (0, 0)) := (hb1.block _ (by first | (simp; done) | (simp; omega))).trans ((Below.heap_alloc _ _ _ (by first | (simp; done) | (simp; omega))).trans (heap_alloc_new w _))
               have hz1 : w1.heap[w.heap.size + 1]? = some (.cells #[.int .i64 0, .slice none 0 0, .slice none 0 0, .slice none 0 0, .slice none 0 0] 26 (0, 0)) := (hb1.block _ (by first | (simp; done) | (simp; omega))).trans (by have := heap_alloc2_new w (.cells #[.int .i64 1, .slice p.a1 d.se.length p.c1, .slice p.a2 d.sd.length p.c2, .slice p.a3 d.sx.length p.c3, .slice p.a4 d.rv.length p.c4] 26) (.cells #[.int .i64 0, .slice none 0 0, .slice none 0 0, .slice none 0 0, .slice none 0 0] 26); exact this)
               have hs1 : w.heap.size + 1 < w1.heap.size := (by have := hb1.size; simp at this; omega)
               have hs1' : w.heap.size < w1.heap.size := Nat.lt_trans (Nat.lt_succ_self _) hs1
               have hs1'' : w.heap.size ≤ w1.heap.size := Nat.le_of_lt hs1'
               have HB1 : Hid (Below w.heap.size w w1) := Lib.hid (show Below w.heap.size w w1 from (by have hbq := hb1; exact (by repeat' (first | with_reducible exact Below.refl _ _ | with_reducible assumption | with_reducible refine below_drewN ?_ _ | with_reducible refine Below.drew ?_ | with_reducible refine Below.alloc ?_ ?_ _ | with_reducible refine Below.setCell ?_ ?_ _ | with_reducible refine Below.trans ?_ (Below.mono (by with_reducible assumption) ?_) | with_reducible refine below_only ?_ (by with_reducible assumption) ?_ ?_ | (simp; done) | (simp; omega) | omega))))
               have Hr1 := Lib.hid hr1
               have Hz1 := Lib.hid hz1
               have c10 := cell_of_row w1 (w.heap.size) 0 _ _ _ hr1; have c11 := cell_of_row w1 (w.heap.size) 1 _ _ _ hr1; have c12 := cell_of_row w1 (w.heap.size) 2 _ _ _ hr1; have c13 := cell_of_row w1 (w.heap.size) 3 _ _ _ hr1; have c14 := cell_of_row w1 (w.heap.size) 4 _ _ _ hr1; have z10 := cell_of_row w1 (w.heap.size + 1) 0 _ _ _ hz1; have z11 := cell_of_row w1 (w.heap.size + 1) 1 _ _ _ hz1; have z12 := cell_of_row w1 (w.heap.size + 1) 2 _ _ _ hz1; have z13 := cell_of_row w1 (w.heap.size + 1) 3 _ _ _ hz1; have z14 := cell_of_row w1 (w.heap.size + 1) 4 _ _ _ hz1; have g10 := frozen_of_row w1 (w.heap.size + 1) 0 _ _ hz1; have g11 := frozen_of_row w1 (w.heap.size + 1) 1 _ _ hz1; have g12 := frozen_of_row w1 (w.heap.size + 1) 2 _ _ hz1; have g13 := frozen_of_row w1 (w.heap.size + 1) 3 _ _ hz1; have g14 := frozen_of_row w1 (w.heap.size + 1) 4 _ _ hz1;
                 clear hb1 hr1 hz1)
            | (go_at_call 45
               refine (HCp.out _ (H.out.below (HB1.out.trans ((show Below w1.heap.size w1 _ from (by repeat' (first | with_reducible exact Below.refl _ _ | with_reducible refine below_drewN ?_ _ | with_reducible refine Below.drew ?_ | with_reducible refine Below.alloc ?_ ?_ _ | with_reducible refine Below.setCell ?_ ?_ _ | with_reducible refine Below.trans ?_ (Below.mono (by with_reducible assumption) ?_) | (simp; done) | (simp; omega) | omega))).mono hs1'')))).mono ?_
               rintro e w3 ⟨q, rfl, hown3, hb3⟩
               have Hown3 : Hid (OwnD w3 (w.heap.size + 2) q d) := Lib.hid (hown3.rebase (by have := hs1; first | omega | (simp; omega)))
               have Hb3 : Hid (Below w1.heap.size w1 w3) := Lib.hid (show Below w1.heap.size w1 w3 from (by have hbq := hb3; exact (by repeat' (first | with_reducible exact Below.refl _ _ | with_reducible assumption | with_reducible refine below_drewN ?_ _ | with_reducible refine Below.drew ?_ | with_reducible refine Below.alloc ?_ ?_ _ | with_reducible refine Below.setCell ?_ ?_ _ | with_reducible refine Below.trans ?_ (Below.mono (by with_reducible assumption) ?_) | with_reducible refine below_only ?_ (by with_reducible assumption) ?_ ?_ | (simp; done) | (simp; omega) | omega))))
               have hs3 : w1.heap.size ≤ w3.heap.size := Hb3.out.size
               have HB4 : Hid (Below w.heap.size w (w3.alloc (.cells #[.int .i64 1, .slice q.a1 d.se.length q.c1, .slice q.a2 d.sd.length q.c2, .slice q.a3 d.sx.length q.c3, .slice q.a4 d.rv.length q.c4] 26))) := Lib.hid ((HB1.out.trans (Hb3.out.mono hs1'')).alloc (Nat.le_trans hs1'' hs3) _)
               have hz4 : (w3.alloc (.cells #[.int .i64 1, .slice q.a1 d.se.length q.c1, .slice q.a2 d.sd.length q.c2, .slice q.a3 d.sx.length q.c3, .slice q.a4 d.rv.length q.c4] 26)).heap[w.heap.size + 1]? = some (.cells #[.int .i64 0, .slice none 0 0, .slice none 0 0, .slice none 0 0, .slice none 0 0] 26 (0, 0)) := (Below.heap_alloc _ _ _ (by omega)).trans ((Hb3.out.block _ hs1).trans Hz1.out)
               have ht4 : (w3.alloc (.cells #[.int .i64 1, .slice q.a1 d.se.length q.c1, .slice q.a2 d.sd.length q.c2, .slice q.a3 d.sx.length q.c3, .slice q.a4 d.rv.length q.c4] 26)).heap[w3.heap.size]? = some (.cells #[.int .i64 1, .slice q.a1 d.se.length q.c1, .slice q.a2 d.sd.length q.c2, .slice q.a3 d.sx.length q.c3, .slice q.a4 d.rv.length q.c4] 26 (0, 0)) := heap_alloc_new w3 _
               have hs4 : w3.heap.size < (w3.alloc (.cells #[.int .i64 1, .slice q.a1 d.se.length q.c1, .slice q.a2 d.sd.length q.c2, .slice q.a3 d.sx.length q.c3, .slice q.a4 d.rv.length q.c4] 26)).heap.size := by simp
               have Hown4 : Hid (OwnD (w3.alloc (.cells #[.int .i64 1, .slice q.a1 d.se.length q.c1, .slice q.a2 d.sd.length q.c2, .slice q.a3 d.sx.length q.c3, .slice q.a4 d.rv.length q.c4] 26)) (w.heap.size + 2) q d) := Lib.hid (Hown3.out.below (Below.alloc (Below.refl _ _) (Nat.le_refl _) _))
               have Hz4 := Lib.hid hz4
               have Ht4 := Lib.hid ht4
               clear hown3 hb3 hz4 ht4)
            | fail)
          have hz5 := box5 (x := .int .i64 (1)) (y := .slice p.a1 d.se.length p.c1) (z := .slice p.a2 d.sd.length p.c2) (u := .slice p.a3 d.sx.length p.c3) (v := .slice p.a4 d.rv.length p.c4) Hz1.out
          have y0 := cell_of_row _ _ 0 _ _ _ hz5
          have y1 := cell_of_row _ _ 1 _ _ _ hz5
          have y2 := cell_of_row _ _ 2 _ _ _ hz5
          have y3 := cell_of_row _ _ 3 _ _ _ hz5
          have y4 := cell_of_row _ _ 4 _ _ _ hz5
          refine bodyPost_ret (v := .tuple #[.agg #[.int .i64 (1), .slice p.a1 d.se.length p.c1, .slice p.a2 d.sd.length p.c2, .slice p.a3 d.sx.length p.c3, .slice p.a4 d.rv.length p.c4], .int .i64 63]) (by simp [results, Try.results18, go_sem, *]) rfl ?_
          exact ⟨p, by simp [hs], .inl ⟨rfl, rfl⟩, box5_below HB1.out (by omega)⟩
        · obtain ⟨n, rfl⟩ := Int.eq_ofNat_of_zero_le (show 0 ≤ k by omega)
          have hn2 : n < d.sd.length := by omega
          have hn1 : n < d.se.length := by omega
          obtain ⟨b2, o2, e2, hb2, cs2⟩ := h.s2.at n hn2
          have He2 := Lib.hid e2
          have Hcs2 := Lib.hid cs2
          have hkl2 : (n : Int) < (d.sd.length : Int) := by omega
          have hkl1 : (n : Int) < (d.se.length : Int) := by omega
          have hk00 : (0 : Int) ≤ (n : Int) := by omega
          have hkn2 : ¬ (d.se.length : Int) ≤ (n : Int) := by omega
          have hkm2 : ¬ d.se.length ≤ n := by omega
          have hg : noSeal d (n : Int) = d.sd[n] := by
            have a1 : ¬ (n : Int) < 0 := by omega
            have a2 : ¬ (d.sd.length : Int) ≤ (n : Int) := by omega
            unfold noSeal
            rw [decide_eq_false a1, decide_eq_false a2]
            simp [List.getD_eq_getElem?_getD, hn2]
          cases hsd : d.sd[n] with
          | true =>
            have e0 : commitD d n s = (d, 63) := by rw [Hn.out, hu, if_pos rfl, hg, hsd, if_pos rfl]
            rw [e0]
            rw [hsd] at Hcs2
            clear e0 hu Hn Hu h x1 x2 x3 x4 x5 x6 x7 hsd hg cs2 e2 hk0 hkl hc
            go_enter Try.func18, Try.ntmps18
            go_wp2_with (first
              | (go_at_call 16
                 refine (HCk.out _ (H.out.below (by repeat' (first | with_reducible exact Below.refl _ _ | with_reducible refine below_drewN ?_ _ | with_reducible refine Below.drew ?_ | with_reducible refine Below.alloc ?_ ?_ _ | with_reducible refine Below.setCell ?_ ?_ _ | with_reducible refine Below.trans ?_ (Below.mono (by with_reducible assumption) ?_) | (simp; done) | (simp; omega) | omega)))).mono ?_
                 rintro e w1 ⟨rfl, hb1⟩
                 have hr1 : w1.heap[w.heap.size]? = some (.cells #[.int .i64 1, .slice p.a1 d.se.length p.c1, .slice p.a2 d.sd.length p.c2, .slice p.a3 d.sx.length p.c3, .slice p.a4 d.rv.length p.c4] 26 (0, 0)) := (hb1.block _ (by first | (simp; done) | (simp; omega))).trans ((Below.heap_alloc _ _ _ (by first | (simp; done) | (simp; omega))).trans (heap_alloc_new w _))
                 have hz1 : w1.heap[w.heap.size + 1]? = some (.cells #[.int .i64 0, .slice none 0 0, .slice none 0 0, .slice none 0 0, .slice none 0 0] 26 (0, 0)) := (hb1.block _ (by first | (simp; done) | (simp; omega))).trans (by have := heap_alloc2_new w (.cells #[.int .i64 1, .slice p.a1 d.se.length p.c1, .slice p.a2 d.sd.length p.c2, .slice p.a3 d.sx.length p.c3, .slice p.a4 d.rv.length p.c4] 26) (.cells #[.int .i64 0, .slice none 0 0, .slice none 0 0, .slice none 0 0, .slice none 0 0] 26); exact this)
                 have hs1 : w.heap.size + 1 < w1.heap.size := (by have := hb1.size; simp at this; omega)
                 have hs1' : w.heap.size < w1.heap.size := Nat.lt_trans (Nat.lt_succ_self _) hs1
                 have hs1'' : w.heap.size ≤ w1.heap.size := Nat.le_of_lt hs1'
                 have HB1 : Hid (Below w.heap.size w w1) := Lib.hid (show Below w.heap.size w w1 from (by have hbq := hb1; exact (by repeat' (first | with_reducible exact Below.refl _ _ | with_reducible assumption | with_reducible refine below_drewN ?_ _ | with_reducible refine Below.drew ?_ | with_reducible refine Below.alloc ?_ ?_ _ | with_reducible refine Below.setCell ?_ ?_ _ | with_reducible refine Below.trans ?_ (Below.mono (by with_reducible assumption) ?_) | with_reducible refine below_only ?_ (by with_reducible assumption) ?_ ?_ | (simp; done) | (simp; omega) | omega))))
                 have Hr1 := Lib.hid hr1
                 have Hz1 := Lib.hid hz1
                 have c10 := cell_of_row w1 (w.heap.size) 0 _ _ _ hr1; have c11 := cell_of_row w1 (w.heap.size) 1 _ _ _ hr1; have c12 := cell_of_row w1 (w.heap.size) 2 _ _ _ hr1; have c13 := cell_of_row w1 (w.heap.size) 3 _ _ _ hr1; have c14 := cell_of_row w1 (w.heap.size) 4 _ _ _ hr1; have z10 := cell_of_row w1 (w.heap.size + 1) 0 _ _ _ hz1; have z11 := cell_of_row w1 (w.heap.size + 1) 1 _ _ _ hz1; have z12 := cell_of_row w1 (w.heap.size + 1) 2 _ _ _ hz1; have z13 := cell_of_row w1 (w.heap.size + 1) 3 _ _ _ hz1; have z14 := cell_of_row w1 (w.heap.size + 1) 4 _ _ _ hz1; have g10 := frozen_of_row w1 (w.heap.size + 1) 0 _ _ hz1; have g11 := frozen_of_row w1 (w.heap.size + 1) 1 _ _ hz1; have g12 := frozen_of_row w1 (w.heap.size + 1) 2 _ _ hz1; have g13 := frozen_of_row w1 (w.heap.size + 1) 3 _ _ hz1; have g14 := frozen_of_row w1 (w.heap.size + 1) 4 _ _ hz1;
                 rw [He2.out] at c12
                 have cs3 := (HB1.out.cell (p := ⟨b2, o2 + n, none⟩) hb2).trans Hcs2.out
                 clear hb1 hr1 hz1)
              | (go_at_call 45
                 refine (HCp.out _ (H.out.below (HB1.out.trans ((show Below w1.heap.size w1 _ from (by repeat' (first | with_reducible exact Below.refl _ _ | with_reducible refine below_drewN ?_ _ | with_reducible refine Below.drew ?_ | with_reducible refine Below.alloc ?_ ?_ _ | with_reducible refine Below.setCell ?_ ?_ _ | with_reducible refine Below.trans ?_ (Below.mono (by with_reducible assumption) ?_) | (simp; done) | (simp; omega) | omega))).mono hs1'')))).mono ?_
                 rintro e w3 ⟨q, rfl, hown3, hb3⟩
                 have Hown3 : Hid (OwnD w3 (w.heap.size + 2) q d) := Lib.hid (hown3.rebase (by have := hs1; first | omega | (simp; omega)))
                 have Hb3 : Hid (Below w1.heap.size w1 w3) := Lib.hid (show Below w1.heap.size w1 w3 from (by have hbq := hb3; exact (by repeat' (first | with_reducible exact Below.refl _ _ | with_reducible assumption | with_reducible refine below_drewN ?_ _ | with_reducible refine Below.drew ?_ | with_reducible refine Below.alloc ?_ ?_ _ | with_reducible refine Below.setCell ?_ ?_ _ | with_reducible refine Below.trans ?_ (Below.mono (by with_reducible assumption) ?_) | with_reducible refine below_only ?_ (by with_reducible assumption) ?_ ?_ | (simp; done) | (simp; omega) | omega))))
                 have hs3 : w1.heap.size ≤ w3.heap.size := Hb3.out.size
                 have HB4 : Hid (Below w.heap.size w (w3.alloc (.cells #[.int .i64 1, .slice q.a1 d.se.length q.c1, .slice q.a2 d.sd.length q.c2, .slice q.a3 d.sx.length q.c3, .slice q.a4 d.rv.length q.c4] 26))) := Lib.hid ((HB1.out.trans (Hb3.out.mono hs1'')).alloc (Nat.le_trans hs1'' hs3) _)
                 have hz4 : (w3.alloc (.cells #[.int .i64 1, .slice q.a1 d.se.length q.c1, .slice q.a2 d.sd.length q.c2, .slice q.a3 d.sx.length q.c3, .slice q.a4 d.rv.length q.c4] 26)).heap[w.heap.size + 1]? = some (.cells #[.int .i64 0, .slice none 0 0, .slice none 0 0, .slice none 0 0, .slice none 0 0] 26 (0, 0)) := (Below.heap_alloc _ _ _ (by omega)).trans ((Hb3.out.block _ hs1).trans Hz1.out)
                 have ht4 : (w3.alloc (.cells #[.int .i64 1, .slice q.a1 d.se.length q.c1, .slice q.a2 d.sd.length q.c2, .slice q.a3 d.sx.length q.c3, .slice q.a4 d.rv.length q.c4] 26)).heap[w3.heap.size]? = some (.cells #[.int .i64 1, .slice q.a1 d.se.length q.c1, .slice q.a2 d.sd.length q.c2, .slice q.a3 d.sx.length q.c3, .slice q.a4 d.rv.length q.c4] 26 (0, 0)) := heap_alloc_new w3 _
                 have hs4 : w3.heap.size < (w3.alloc (.cells #[.int .i64 1, .slice q.a1 d.se.length q.c1, .slice q.a2 d.sd.length q.c2, .slice q.a3 d.sx.length q.c3, .slice q.a4 d.rv.length q.c4] 26)).heap.size := by simp
                 have Hown4 : Hid (OwnD (w3.alloc (.cells #[.int .i64 1, .slice q.a1 d.se.length q.c1, .slice q.a2 d.sd.length q.c2, .slice q.a3 d.sx.length q.c3, .slice q.a4 d.rv.length q.c4] 26)) (w.heap.size + 2) q d) := Lib.hid (Hown3.out.below (Below.alloc (Below.refl _ _) (Nat.le_refl _) _))
                 have Hz4 := Lib.hid hz4
                 have Ht4 := Lib.hid ht4
                 clear hown3 hb3 hz4 ht4)
              | fail)
            have hz5 := box5 (x := .int .i64 (1)) (y := .slice p.a1 d.se.length p.c1) (z := .slice p.a2 d.sd.length p.c2) (u := .slice p.a3 d.sx.length p.c3) (v := .slice p.a4 d.rv.length p.c4) Hz1.out
            have y0 := cell_of_row _ _ 0 _ _ _ hz5
            have y1 := cell_of_row _ _ 1 _ _ _ hz5
            have y2 := cell_of_row _ _ 2 _ _ _ hz5
            have y3 := cell_of_row _ _ 3 _ _ _ hz5
            have y4 := cell_of_row _ _ 4 _ _ _ hz5
            refine bodyPost_ret (v := .tuple #[.agg #[.int .i64 (1), .slice p.a1 d.se.length p.c1, .slice p.a2 d.sd.length p.c2, .slice p.a3 d.sx.length p.c3, .slice p.a4 d.rv.length p.c4], .int .i64 63]) (by have k2 := He2.out; simp [results, Try.results18, go_sem, *]) rfl ?_
            exact ⟨p, by simp [hs], .inl ⟨rfl, rfl⟩, box5_below HB1.out (by omega)⟩
          | false =>
            have e0 : commitD d n s = ({ d with se := d.se.set n s, sd := d.sd.set n true }, 0) := by rw [Hn.out, hu, if_pos rfl, hg, hsd, if_neg (by simp)]; rfl
            rw [e0]
            rw [hsd] at Hcs2
            have m1 : (d.se.map (Value.int .u64))[n]? = some (.int .u64 d.se[n]) := by simp [hn1]
            have m2 : (d.sd.map Value.bool)[n]? = some (.bool false) := by simp [hn2, hsd]
            have M1 := Lib.hid m1
            have M2 := Lib.hid m2
            clear e0 hu Hn Hu h x1 x2 x3 x4 x5 x6 x7 hsd hg cs2 e2 hk0 hkl m1 m2 hc
            have HCp2 : Hid (∀ W, DrAt W p d → Calls Try.prog 45 #[.agg #[.int .i64 1, .slice p.a1 d.se.length p.c1, .slice (some ⟨b2, o2, none⟩) d.sd.length p.c2, .slice p.a3 d.sx.length p.c3, .slice p.a4 d.rv.length p.c4]] W (DrPost W d)) := Lib.hid (fun W hW => by have := HCp.out W hW; rw [He2.out] at this; exact this)
            go_enter Try.func18, Try.ntmps18
            go_upto_region 8 with (first
              | (go_at_call 16
                 refine (HCk.out _ (H.out.below (by repeat' (first | with_reducible exact Below.refl _ _ | with_reducible refine below_drewN ?_ _ | with_reducible refine Below.drew ?_ | with_reducible refine Below.alloc ?_ ?_ _ | with_reducible refine Below.setCell ?_ ?_ _ | with_reducible refine Below.trans ?_ (Below.mono (by with_reducible assumption) ?_) | (simp; done) | (simp; omega) | omega)))).mono ?_
                 rintro e w1 ⟨rfl, hb1⟩
                 have hr1 : w1.heap[w.heap.size]? = some (.cells #[.int .i64 1, .slice p.a1 d.se.length p.c1, .slice p.a2 d.sd.length p.c2, .slice p.a3 d.sx.length p.c3, .slice p.a4 d.rv.length p.c4] 26 (0, 0)) := (hb1.block _ (by first | (simp; done) | (simp; omega))).trans ((Below.heap_alloc _ _ _ (by first | (simp; done) | (simp; omega))).trans (heap_alloc_new w _))
                 have hz1 : w1.heap[w.heap.size + 1]? = some (.cells #[.int .i64 0, .slice none 0 0, .slice none 0 0, .slice none 0 0, .slice none 0 0] 26 (0, 0)) := (hb1.block _ (by first | (simp; done) | (simp; omega))).trans (by have := heap_alloc2_new w (.cells #[.int .i64 1, .slice p.a1 d.se.length p.c1, .slice p.a2 d.sd.length p.c2, .slice p.a3 d.sx.length p.c3, .slice p.a4 d.rv.length p.c4] 26) (.cells #[.int .i64 0, .slice none 0 0, .slice none 0 0, .slice none 0 0, .slice none 0 0] 26); exact this)
                 have hs1 : w.heap.size + 1 < w1.heap.size := (by have := hb1.size; simp at this; omega)
                 have hs1' : w.heap.size < w1.heap.size := Nat.lt_trans (Nat.lt_succ_self _) hs1
                 have hs1'' : w.heap.size ≤ w1.heap.size := Nat.le_of_lt hs1'
                 have HB1 : Hid (Below w.heap.size w w1) := Lib.hid (show Below w.heap.size w w1 from (by have hbq := hb1; exact (by repeat' (first | with_reducible exact Below.refl _ _ | with_reducible assumption | with_reducible refine below_drewN ?_ _ | with_reducible refine Below.drew ?_ | with_reducible refine Below.alloc ?_ ?_ _ | with_reducible refine Below.setCell ?_ ?_ _ | with_reducible refine Below.trans ?_ (Below.mono (by with_reducible assumption) ?_) | with_reducible refine below_only ?_ (by with_reducible assumption) ?_ ?_ | (simp; done) | (simp; omega) | omega))))
                 have Hr1 := Lib.hid hr1
                 have Hz1 := Lib.hid hz1
                 have c10 := cell_of_row w1 (w.heap.size) 0 _ _ _ hr1; have c11 := cell_of_row w1 (w.heap.size) 1 _ _ _ hr1; have c12 := cell_of_row w1 (w.heap.size) 2 _ _ _ hr1; have c13 := cell_of_row w1 (w.heap.size) 3 _ _ _ hr1; have c14 := cell_of_row w1 (w.heap.size) 4 _ _ _ hr1; have z10 := cell_of_row w1 (w.heap.size + 1) 0 _ _ _ hz1; have z11 := cell_of_row w1 (w.heap.size + 1) 1 _ _ _ hz1; have z12 := cell_of_row w1 (w.heap.size + 1) 2 _ _ _ hz1; have z13 := cell_of_row w1 (w.heap.size + 1) 3 _ _ _ hz1; have z14 := cell_of_row w1 (w.heap.size + 1) 4 _ _ _ hz1; have g10 := frozen_of_row w1 (w.heap.size + 1) 0 _ _ hz1; have g11 := frozen_of_row w1 (w.heap.size + 1) 1 _ _ hz1; have g12 := frozen_of_row w1 (w.heap.size + 1) 2 _ _ hz1; have g13 := frozen_of_row w1 (w.heap.size + 1) 3 _ _ hz1; have g14 := frozen_of_row w1 (w.heap.size + 1) 4 _ _ hz1;
                 rw [He2.out] at c12
                 have cs3 := (HB1.out.cell (p := ⟨b2, o2 + n, none⟩) hb2).trans Hcs2.out
                 clear hb1 hr1 hz1)
              | (go_at_call 45
                 refine (HCp2.out _ (H.out.below (HB1.out.trans ((show Below w1.heap.size w1 _ from (by repeat' (first | with_reducible exact Below.refl _ _ | with_reducible refine below_drewN ?_ _ | with_reducible refine Below.drew ?_ | with_reducible refine Below.alloc ?_ ?_ _ | with_reducible refine Below.setCell ?_ ?_ _ | with_reducible refine Below.trans ?_ (Below.mono (by with_reducible assumption) ?_) | (simp; done) | (simp; omega) | omega))).mono hs1'')))).mono ?_
                 rintro e w3 ⟨q, rfl, hown3, hb3⟩
                 have Hown3 : Hid (OwnD w3 (w.heap.size + 2) q d) := Lib.hid (hown3.rebase (by have := hs1; first | omega | (simp; omega)))
                 have Hb3 : Hid (Below w1.heap.size w1 w3) := Lib.hid (show Below w1.heap.size w1 w3 from (by have hbq := hb3; exact (by repeat' (first | with_reducible exact Below.refl _ _ | with_reducible assumption | with_reducible refine below_drewN ?_ _ | with_reducible refine Below.drew ?_ | with_reducible refine Below.alloc ?_ ?_ _ | with_reducible refine Below.setCell ?_ ?_ _ | with_reducible refine Below.trans ?_ (Below.mono (by with_reducible assumption) ?_) | with_reducible refine below_only ?_ (by with_reducible assumption) ?_ ?_ | (simp; done) | (simp; omega) | omega))))
                 have hs3 : w1.heap.size ≤ w3.heap.size := Hb3.out.size
                 have HB4 : Hid (Below w.heap.size w (w3.alloc (.cells #[.int .i64 1, .slice q.a1 d.se.length q.c1, .slice q.a2 d.sd.length q.c2, .slice q.a3 d.sx.length q.c3, .slice q.a4 d.rv.length q.c4] 26))) := Lib.hid ((HB1.out.trans (Hb3.out.mono hs1'')).alloc (Nat.le_trans hs1'' hs3) _)
                 have hz4 : (w3.alloc (.cells #[.int .i64 1, .slice q.a1 d.se.length q.c1, .slice q.a2 d.sd.length q.c2, .slice q.a3 d.sx.length q.c3, .slice q.a4 d.rv.length q.c4] 26)).heap[w.heap.size + 1]? = some (.cells #[.int .i64 0, .slice none 0 0, .slice none 0 0, .slice none 0 0, .slice none 0 0] 26 (0, 0)) := (Below.heap_alloc _ _ _ (by omega)).trans ((Hb3.out.block _ hs1).trans Hz1.out)
                 have ht4 : (w3.alloc (.cells #[.int .i64 1, .slice q.a1 d.se.length q.c1, .slice q.a2 d.sd.length q.c2, .slice q.a3 d.sx.length q.c3, .slice q.a4 d.rv.length q.c4] 26)).heap[w3.heap.size]? = some (.cells #[.int .i64 1, .slice q.a1 d.se.length q.c1, .slice q.a2 d.sd.length q.c2, .slice q.a3 d.sx.length q.c3, .slice q.a4 d.rv.length q.c4] 26 (0, 0)) := heap_alloc_new w3 _
                 have hs4 : w3.heap.size < (w3.alloc (.cells #[.int .i64 1, .slice q.a1 d.se.length q.c1, .slice q.a2 d.sd.length q.c2, .slice q.a3 d.sx.length q.c3, .slice q.a4 d.rv.length q.c4] 26)).heap.size := by simp
                 have Hown4 : Hid (OwnD (w3.alloc (.cells #[.int .i64 1, .slice q.a1 d.se.length q.c1, .slice q.a2 d.sd.length q.c2, .slice q.a3 d.sx.length q.c3, .slice q.a4 d.rv.length q.c4] 26)) (w.heap.size + 2) q d) := Lib.hid (Hown3.out.below (Below.alloc (Below.refl _ _) (Nat.le_refl _) _))
                 have Hz4 := Lib.hid hz4
                 have Ht4 := Lib.hid ht4
                 clear hown3 hb3 hz4 ht4)
              | fail)
            generalize w3.alloc (.cells #[.int .i64 1, .slice q.a1 d.se.length q.c1, .slice q.a2 d.sd.length q.c2, .slice q.a3 d.sx.length q.c3, .slice q.a4 d.rv.length q.c4] 26) = w4 at *
            have hz4 := Hz4.out
            have ht4 := Ht4.out
            have tt0 := cell_of_row w4 (w3.heap.size) 0 _ _ _ ht4; have tt1 := cell_of_row w4 (w3.heap.size) 1 _ _ _ ht4; have tt2 := cell_of_row w4 (w3.heap.size) 2 _ _ _ ht4; have tt3 := cell_of_row w4 (w3.heap.size) 3 _ _ _ ht4; have tt4 := cell_of_row w4 (w3.heap.size) 4 _ _ _ ht4; have zz0 := cell_of_row w4 (w.heap.size + 1) 0 _ _ _ hz4; have zz1 := cell_of_row w4 (w.heap.size + 1) 1 _ _ _ hz4; have zz2 := cell_of_row w4 (w.heap.size + 1) 2 _ _ _ hz4; have zz3 := cell_of_row w4 (w.heap.size + 1) 3 _ _ _ hz4; have zz4 := cell_of_row w4 (w.heap.size + 1) 4 _ _ _ hz4; have gg0 := frozen_of_row w4 (w.heap.size + 1) 0 _ _ hz4; have gg1 := frozen_of_row w4 (w.heap.size + 1) 1 _ _ hz4; have gg2 := frozen_of_row w4 (w.heap.size + 1) 2 _ _ hz4; have gg3 := frozen_of_row w4 (w.heap.size + 1) 3 _ _ hz4; have gg4 := frozen_of_row w4 (w.heap.size + 1) 4 _ _ hz4; have uu0 := frozen_of_row w4 (w3.heap.size) 0 _ _ ht4; have uu1 := frozen_of_row w4 (w3.heap.size) 1 _ _ ht4; have uu2 := frozen_of_row w4 (w3.heap.size) 2 _ _ ht4; have uu3 := frozen_of_row w4 (w3.heap.size) 3 _ _ ht4; have uu4 := frozen_of_row w4 (w3.heap.size) 4 _ _ ht4;
            obtain ⟨G1, gc1, hG1, hGb1, hGl1, _, _, hc1, hf1⟩ := own_at Hown4.out.o1 (by omega)
            injection hG1 with hq1 _ hqc1
            have Hq1 := Lib.hid hq1
            rw [hq1] at tt1
            have d1 := hc1 _ _ M1.out
            have fr1 := hf1 n
            have hGw1 := Hown3.out.o1.lt G1 (by rw [hq1]; rfl)
            obtain ⟨G2, gc2, hG2, hGb2, hGl2, _, _, hc2, hf2⟩ := own_at Hown4.out.o2 (by omega)
            injection hG2 with hq2 _ hqc2
            have Hq2 := Lib.hid hq2
            rw [hq2] at tt2
            have d2 := hc2 _ _ M2.out
            have fr2 := hf2 n
            have hGw2 := Hown3.out.o2.lt G2 (by rw [hq2]; rfl)
            have hGij : G1 ≠ G2 := fun e => Hown4.out.n12 G1 (by rw [hq1]; rfl) (by rw [hq2, e]; rfl)
            clear hc1 hf1 hc2 hf2 hq1 hq2 hqc1 hqc2
            clear hz4 ht4
            go_cut [] (fun wx => OwnD wx (w.heap.size + 2) q { d with se := d.se.set n s, sd := d.sd.set n true } ∧ wx.heap[w.heap.size + 1]? = some (.cells #[.int .i64 0, .slice none 0 0, .slice none 0 0, .slice none 0 0, .slice none 0 0] 26 (0, 0)) ∧ wx.heap[w3.heap.size]? = some (.cells #[.int .i64 1, .slice q.a1 d.se.length q.c1, .slice q.a2 d.sd.length q.c2, .slice q.a3 d.sx.length q.c3, .slice q.a4 d.rv.length q.c4] 26 (0, 0)) ∧ Below w.heap.size w wx)
            case first =>
              go_region
              all_goals go_wp2
              all_goals go_meet
              all_goals first
                | exact ⟨((Hown4.out.set1 Hq1.out n s).set2 Hq2.out n true).drew, (Below.heap_setCell _ _ _ _ (by simp; omega)).trans ((Below.heap_setCell _ _ _ _ (by simp; omega)).trans Hz4.out), (Below.heap_setCell _ _ _ _ (by simp; omega)).trans ((Below.heap_setCell _ _ _ _ (by simp; omega)).trans Ht4.out), Below.drew ((HB4.out.setCell (by simp; omega) _).setCell (by simp; omega) _)⟩
                | exact ⟨((Hown4.out.set2 Hq2.out n true).set1 Hq1.out n s).drew, (Below.heap_setCell _ _ _ _ (by simp; omega)).trans ((Below.heap_setCell _ _ _ _ (by simp; omega)).trans Hz4.out), (Below.heap_setCell _ _ _ _ (by simp; omega)).trans ((Below.heap_setCell _ _ _ _ (by simp; omega)).trans Ht4.out), Below.drew ((HB4.out.setCell (by simp; omega) _).setCell (by simp; omega) _)⟩
            case rest =>
              obtain ⟨wx, rfl⟩ : ∃ wx : World, wx = wc := ⟨_, rfl⟩
              obtain ⟨hox, hzx, htx, hbx⟩ := hcut
              have Hox := Lib.hid hox
              have Hzx := Lib.hid hzx
              have Hbx := Lib.hid hbx
              have tx0 := cell_of_row wx (w3.heap.size) 0 _ _ _ htx; have tx1 := cell_of_row wx (w3.heap.size) 1 _ _ _ htx; have tx2 := cell_of_row wx (w3.heap.size) 2 _ _ _ htx; have tx3 := cell_of_row wx (w3.heap.size) 3 _ _ _ htx; have tx4 := cell_of_row wx (w3.heap.size) 4 _ _ _ htx; have zx0 := cell_of_row wx (w.heap.size + 1) 0 _ _ _ hzx; have zx1 := cell_of_row wx (w.heap.size + 1) 1 _ _ _ hzx; have zx2 := cell_of_row wx (w.heap.size + 1) 2 _ _ _ hzx; have zx3 := cell_of_row wx (w.heap.size + 1) 3 _ _ _ hzx; have zx4 := cell_of_row wx (w.heap.size + 1) 4 _ _ _ hzx; have gx0 := frozen_of_row wx (w.heap.size + 1) 0 _ _ hzx; have gx1 := frozen_of_row wx (w.heap.size + 1) 1 _ _ hzx; have gx2 := frozen_of_row wx (w.heap.size + 1) 2 _ _ hzx; have gx3 := frozen_of_row wx (w.heap.size + 1) 3 _ _ hzx; have gx4 := frozen_of_row wx (w.heap.size + 1) 4 _ _ hzx;
              clear hox hzx htx hbx
              go_wp2
              have hz5 := box5 (x := .int .i64 (1)) (y := .slice q.a1 d.se.length q.c1) (z := .slice q.a2 d.sd.length q.c2) (u := .slice q.a3 d.sx.length q.c3) (v := .slice q.a4 d.rv.length q.c4) Hzx.out
              have y0 := cell_of_row _ _ 0 _ _ _ hz5
              have y1 := cell_of_row _ _ 1 _ _ _ hz5
              have y2 := cell_of_row _ _ 2 _ _ _ hz5
              have y3 := cell_of_row _ _ 3 _ _ _ hz5
              have y4 := cell_of_row _ _ 4 _ _ _ hz5
              refine bodyPost_ret (v := .tuple #[.agg #[.int .i64 (1), .slice q.a1 d.se.length q.c1, .slice q.a2 d.sd.length q.c2, .slice q.a3 d.sx.length q.c3, .slice q.a4 d.rv.length q.c4], .int .i64 0]) (by simp [results, Try.results18, go_sem, *]) rfl ?_
              refine ⟨q, ?_, Or.inr ?_, box5_below Hbx.out (by omega)⟩
              · simp [hs]
              · exact OwnD.rebase (base := w.heap.size + 2) (OwnD.old (g := w.heap.size + 1) (Hox.out.state 1) box5_only (by omega)) (by omega)
    · have hu : usableD d 1 = 61 := by rw [Hu.out, hc, if_pos rfl, if_neg hs]
      have e0 : commitD d k s = (d, 61) := by rw [Hn.out, hu, if_neg (by omega)]
      rw [e0]
      clear e0 hu Hn Hu h hc
      go_enter Try.func18, Try.ntmps18
      go_wp2_with (first
        | (go_at_call 16
           refine (checkR_any p d _ (H.out.below (by repeat' (first | with_reducible exact Below.refl _ _ | with_reducible refine below_drewN ?_ _ | with_reducible refine Below.drew ?_ | with_reducible refine Below.alloc ?_ ?_ _ | with_reducible refine Below.setCell ?_ ?_ _ | with_reducible refine Below.trans ?_ (Below.mono (by with_reducible assumption) ?_) | (simp; done) | (simp; omega) | omega)))).mono ?_
           rintro e w1 ⟨rfl, hb1⟩
           rw [HC.out]
           have hr1 : w1.heap[w.heap.size]? = some (.cells #[.int .i64 d.st, .slice p.a1 d.se.length p.c1, .slice p.a2 d.sd.length p.c2, .slice p.a3 d.sx.length p.c3, .slice p.a4 d.rv.length p.c4] 26 (0, 0)) := (hb1.block _ (by first | (simp; done) | (simp; omega))).trans ((Below.heap_alloc _ _ _ (by first | (simp; done) | (simp; omega))).trans (heap_alloc_new w _))
           have hz1 : w1.heap[w.heap.size + 1]? = some (.cells #[.int .i64 0, .slice none 0 0, .slice none 0 0, .slice none 0 0, .slice none 0 0] 26 (0, 0)) := (hb1.block _ (by first | (simp; done) | (simp; omega))).trans (by have := heap_alloc2_new w (.cells #[.int .i64 d.st, .slice p.a1 d.se.length p.c1, .slice p.a2 d.sd.length p.c2, .slice p.a3 d.sx.length p.c3, .slice p.a4 d.rv.length p.c4] 26) (.cells #[.int .i64 0, .slice none 0 0, .slice none 0 0, .slice none 0 0, .slice none 0 0] 26); exact this)
           have hs1 : w.heap.size + 1 < w1.heap.size := (by have := hb1.size; simp at this; omega)
           have hs1' : w.heap.size < w1.heap.size := Nat.lt_trans (Nat.lt_succ_self _) hs1
           have hs1'' : w.heap.size ≤ w1.heap.size := Nat.le_of_lt hs1'
           have HB1 : Hid (Below w.heap.size w w1) := Lib.hid (show Below w.heap.size w w1 from (by have hbq := hb1; exact (by repeat' (first | with_reducible exact Below.refl _ _ | with_reducible assumption | with_reducible refine below_drewN ?_ _ | with_reducible refine Below.drew ?_ | with_reducible refine Below.alloc ?_ ?_ _ | with_reducible refine Below.setCell ?_ ?_ _ | with_reducible refine Below.trans ?_ (Below.mono (by with_reducible assumption) ?_) | with_reducible refine below_only ?_ (by with_reducible assumption) ?_ ?_ | (simp; done) | (simp; omega) | omega))))
           have Hr1 := Lib.hid hr1
           have Hz1 := Lib.hid hz1
           have c10 := cell_of_row w1 (w.heap.size) 0 _ _ _ hr1; have c11 := cell_of_row w1 (w.heap.size) 1 _ _ _ hr1; have c12 := cell_of_row w1 (w.heap.size) 2 _ _ _ hr1; have c13 := cell_of_row w1 (w.heap.size) 3 _ _ _ hr1; have c14 := cell_of_row w1 (w.heap.size) 4 _ _ _ hr1; have z10 := cell_of_row w1 (w.heap.size + 1) 0 _ _ _ hz1; have z11 := cell_of_row w1 (w.heap.size + 1) 1 _ _ _ hz1; have z12 := cell_of_row w1 (w.heap.size + 1) 2 _ _ _ hz1; have z13 := cell_of_row w1 (w.heap.size + 1) 3 _ _ _ hz1; have z14 := cell_of_row w1 (w.heap.size + 1) 4 _ _ _ hz1; have g10 := frozen_of_row w1 (w.heap.size + 1) 0 _ _ hz1; have g11 := frozen_of_row w1 (w.heap.size + 1) 1 _ _ hz1; have g12 := frozen_of_row w1 (w.heap.size + 1) 2 _ _ hz1; have g13 := frozen_of_row w1 (w.heap.size + 1) 3 _ _ hz1; have g14 := frozen_of_row w1 (w.heap.size + 1) 4 _ _ hz1;
             clear hb1 hr1 hz1)
        | (go_at_call 45
           refine (copied_any p d _ (H.out.below (HB1.out.trans ((show Below w1.heap.size w1 _ from (by repeat' (first | with_reducible exact Below.refl _ _ | with_reducible refine below_drewN ?_ _ | with_reducible refine Below.drew ?_ | with_reducible refine Below.alloc ?_ ?_ _ | with_reducible refine Below.setCell ?_ ?_ _ | with_reducible refine Below.trans ?_ (Below.mono (by with_reducible assumption) ?_) | (simp; done) | (simp; omega) | omega))).mono hs1''))) hl).mono ?_
           rintro e w3 ⟨q, rfl, hown3, hb3⟩
           have Hown3 : Hid (OwnD w3 (w.heap.size + 2) q d) := Lib.hid (hown3.rebase (by have := hs1; first | omega | (simp; omega)))
           have Hb3 : Hid (Below w1.heap.size w1 w3) := Lib.hid (show Below w1.heap.size w1 w3 from (by have hbq := hb3; exact (by repeat' (first | with_reducible exact Below.refl _ _ | with_reducible assumption | with_reducible refine below_drewN ?_ _ | with_reducible refine Below.drew ?_ | with_reducible refine Below.alloc ?_ ?_ _ | with_reducible refine Below.setCell ?_ ?_ _ | with_reducible refine Below.trans ?_ (Below.mono (by with_reducible assumption) ?_) | with_reducible refine below_only ?_ (by with_reducible assumption) ?_ ?_ | (simp; done) | (simp; omega) | omega))))
           have hs3 : w1.heap.size ≤ w3.heap.size := Hb3.out.size
           have HB4 : Hid (Below w.heap.size w (w3.alloc (.cells #[.int .i64 d.st, .slice q.a1 d.se.length q.c1, .slice q.a2 d.sd.length q.c2, .slice q.a3 d.sx.length q.c3, .slice q.a4 d.rv.length q.c4] 26))) := Lib.hid ((HB1.out.trans (Hb3.out.mono hs1'')).alloc (Nat.le_trans hs1'' hs3) _)
           have hz4 : (w3.alloc (.cells #[.int .i64 d.st, .slice q.a1 d.se.length q.c1, .slice q.a2 d.sd.length q.c2, .slice q.a3 d.sx.length q.c3, .slice q.a4 d.rv.length q.c4] 26)).heap[w.heap.size + 1]? = some (.cells #[.int .i64 0, .slice none 0 0, .slice none 0 0, .slice none 0 0, .slice none 0 0] 26 (0, 0)) := (Below.heap_alloc _ _ _ (by omega)).trans ((Hb3.out.block _ hs1).trans Hz1.out)
           have ht4 : (w3.alloc (.cells #[.int .i64 d.st, .slice q.a1 d.se.length q.c1, .slice q.a2 d.sd.length q.c2, .slice q.a3 d.sx.length q.c3, .slice q.a4 d.rv.length q.c4] 26)).heap[w3.heap.size]? = some (.cells #[.int .i64 d.st, .slice q.a1 d.se.length q.c1, .slice q.a2 d.sd.length q.c2, .slice q.a3 d.sx.length q.c3, .slice q.a4 d.rv.length q.c4] 26 (0, 0)) := heap_alloc_new w3 _
           have hs4 : w3.heap.size < (w3.alloc (.cells #[.int .i64 d.st, .slice q.a1 d.se.length q.c1, .slice q.a2 d.sd.length q.c2, .slice q.a3 d.sx.length q.c3, .slice q.a4 d.rv.length q.c4] 26)).heap.size := by simp
           have Hown4 : Hid (OwnD (w3.alloc (.cells #[.int .i64 d.st, .slice q.a1 d.se.length q.c1, .slice q.a2 d.sd.length q.c2, .slice q.a3 d.sx.length q.c3, .slice q.a4 d.rv.length q.c4] 26)) (w.heap.size + 2) q d) := Lib.hid (Hown3.out.below (Below.alloc (Below.refl _ _) (Nat.le_refl _) _))
           have Hz4 := Lib.hid hz4
           have Ht4 := Lib.hid ht4
           clear hown3 hb3 hz4 ht4)
        | fail)
      have hz5 := box5 (x := .int .i64 (d.st)) (y := .slice p.a1 d.se.length p.c1) (z := .slice p.a2 d.sd.length p.c2) (u := .slice p.a3 d.sx.length p.c3) (v := .slice p.a4 d.rv.length p.c4) Hz1.out
      have y0 := cell_of_row _ _ 0 _ _ _ hz5
      have y1 := cell_of_row _ _ 1 _ _ _ hz5
      have y2 := cell_of_row _ _ 2 _ _ _ hz5
      have y3 := cell_of_row _ _ 3 _ _ _ hz5
      have y4 := cell_of_row _ _ 4 _ _ _ hz5
      refine bodyPost_ret (v := .tuple #[.agg #[.int .i64 (d.st), .slice p.a1 d.se.length p.c1, .slice p.a2 d.sd.length p.c2, .slice p.a3 d.sx.length p.c3, .slice p.a4 d.rv.length p.c4], .int .i64 61]) (by simp [results, Try.results18, go_sem, *]) rfl ?_
      exact ⟨p, rfl, .inl ⟨rfl, rfl⟩, box5_below HB1.out (by omega)⟩
  · have HC := Lib.hid hc
    have hu : usableD d 1 = 22 := by rw [Hu.out, hc, if_neg (by omega)]
    have e0 : commitD d k s = (d, 22) := by rw [Hn.out, hu, if_neg (by omega)]
    rw [e0]
    clear e0 hu Hn Hu h hc
    go_enter Try.func18, Try.ntmps18
    go_wp2_with (first
      | (go_at_call 16
         refine (checkR_any p d _ (H.out.below (by repeat' (first | with_reducible exact Below.refl _ _ | with_reducible refine below_drewN ?_ _ | with_reducible refine Below.drew ?_ | with_reducible refine Below.alloc ?_ ?_ _ | with_reducible refine Below.setCell ?_ ?_ _ | with_reducible refine Below.trans ?_ (Below.mono (by with_reducible assumption) ?_) | (simp; done) | (simp; omega) | omega)))).mono ?_
         rintro e w1 ⟨rfl, hb1⟩
         rw [HC.out]
         have hr1 : w1.heap[w.heap.size]? = some (.cells #[.int .i64 d.st, .slice p.a1 d.se.length p.c1, .slice p.a2 d.sd.length p.c2, .slice p.a3 d.sx.length p.c3, .slice p.a4 d.rv.length p.c4] 26 (0, 0)) := (hb1.block _ (by first | (simp; done) | (simp; omega))).trans ((Below.heap_alloc _ _ _ (by first | (simp; done) | (simp; omega))).trans (heap_alloc_new w _))
         have hz1 : w1.heap[w.heap.size + 1]? = some (.cells #[.int .i64 0, .slice none 0 0, .slice none 0 0, .slice none 0 0, .slice none 0 0] 26 (0, 0)) := (hb1.block _ (by first | (simp; done) | (simp; omega))).trans (by have := heap_alloc2_new w (.cells #[.int .i64 d.st, .slice p.a1 d.se.length p.c1, .slice p.a2 d.sd.length p.c2, .slice p.a3 d.sx.length p.c3, .slice p.a4 d.rv.length p.c4] 26) (.cells #[.int .i64 0, .slice none 0 0, .slice none 0 0, .slice none 0 0, .slice none 0 0] 26); exact this)
         have hs1 : w.heap.size + 1 < w1.heap.size := (by have := hb1.size; simp at this; omega)
         have hs1' : w.heap.size < w1.heap.size := Nat.lt_trans (Nat.lt_succ_self _) hs1
         have hs1'' : w.heap.size ≤ w1.heap.size := Nat.le_of_lt hs1'
         have HB1 : Hid (Below w.heap.size w w1) := Lib.hid (show Below w.heap.size w w1 from (by have hbq := hb1; exact (by repeat' (first | with_reducible exact Below.refl _ _ | with_reducible assumption | with_reducible refine below_drewN ?_ _ | with_reducible refine Below.drew ?_ | with_reducible refine Below.alloc ?_ ?_ _ | with_reducible refine Below.setCell ?_ ?_ _ | with_reducible refine Below.trans ?_ (Below.mono (by with_reducible assumption) ?_) | with_reducible refine below_only ?_ (by with_reducible assumption) ?_ ?_ | (simp; done) | (simp; omega) | omega))))
         have Hr1 := Lib.hid hr1
         have Hz1 := Lib.hid hz1
         have c10 := cell_of_row w1 (w.heap.size) 0 _ _ _ hr1; have c11 := cell_of_row w1 (w.heap.size) 1 _ _ _ hr1; have c12 := cell_of_row w1 (w.heap.size) 2 _ _ _ hr1; have c13 := cell_of_row w1 (w.heap.size) 3 _ _ _ hr1; have c14 := cell_of_row w1 (w.heap.size) 4 _ _ _ hr1; have z10 := cell_of_row w1 (w.heap.size + 1) 0 _ _ _ hz1; have z11 := cell_of_row w1 (w.heap.size + 1) 1 _ _ _ hz1; have z12 := cell_of_row w1 (w.heap.size + 1) 2 _ _ _ hz1; have z13 := cell_of_row w1 (w.heap.size + 1) 3 _ _ _ hz1; have z14 := cell_of_row w1 (w.heap.size + 1) 4 _ _ _ hz1; have g10 := frozen_of_row w1 (w.heap.size + 1) 0 _ _ hz1; have g11 := frozen_of_row w1 (w.heap.size + 1) 1 _ _ hz1; have g12 := frozen_of_row w1 (w.heap.size + 1) 2 _ _ hz1; have g13 := frozen_of_row w1 (w.heap.size + 1) 3 _ _ hz1; have g14 := frozen_of_row w1 (w.heap.size + 1) 4 _ _ hz1;
           clear hb1 hr1 hz1)
      | (go_at_call 45
         refine (copied_any p d _ (H.out.below (HB1.out.trans ((show Below w1.heap.size w1 _ from (by repeat' (first | with_reducible exact Below.refl _ _ | with_reducible refine below_drewN ?_ _ | with_reducible refine Below.drew ?_ | with_reducible refine Below.alloc ?_ ?_ _ | with_reducible refine Below.setCell ?_ ?_ _ | with_reducible refine Below.trans ?_ (Below.mono (by with_reducible assumption) ?_) | (simp; done) | (simp; omega) | omega))).mono hs1''))) hl).mono ?_
         rintro e w3 ⟨q, rfl, hown3, hb3⟩
         have Hown3 : Hid (OwnD w3 (w.heap.size + 2) q d) := Lib.hid (hown3.rebase (by have := hs1; first | omega | (simp; omega)))
         have Hb3 : Hid (Below w1.heap.size w1 w3) := Lib.hid (show Below w1.heap.size w1 w3 from (by have hbq := hb3; exact (by repeat' (first | with_reducible exact Below.refl _ _ | with_reducible assumption | with_reducible refine below_drewN ?_ _ | with_reducible refine Below.drew ?_ | with_reducible refine Below.alloc ?_ ?_ _ | with_reducible refine Below.setCell ?_ ?_ _ | with_reducible refine Below.trans ?_ (Below.mono (by with_reducible assumption) ?_) | with_reducible refine below_only ?_ (by with_reducible assumption) ?_ ?_ | (simp; done) | (simp; omega) | omega))))
         have hs3 : w1.heap.size ≤ w3.heap.size := Hb3.out.size
         have HB4 : Hid (Below w.heap.size w (w3.alloc (.cells #[.int .i64 d.st, .slice q.a1 d.se.length q.c1, .slice q.a2 d.sd.length q.c2, .slice q.a3 d.sx.length q.c3, .slice q.a4 d.rv.length q.c4] 26))) := Lib.hid ((HB1.out.trans (Hb3.out.mono hs1'')).alloc (Nat.le_trans hs1'' hs3) _)
         have hz4 : (w3.alloc (.cells #[.int .i64 d.st, .slice q.a1 d.se.length q.c1, .slice q.a2 d.sd.length q.c2, .slice q.a3 d.sx.length q.c3, .slice q.a4 d.rv.length q.c4] 26)).heap[w.heap.size + 1]? = some (.cells #[.int .i64 0, .slice none 0 0, .slice none 0 0, .slice none 0 0, .slice none 0 0] 26 (0, 0)) := (Below.heap_alloc _ _ _ (by omega)).trans ((Hb3.out.block _ hs1).trans Hz1.out)
         have ht4 : (w3.alloc (.cells #[.int .i64 d.st, .slice q.a1 d.se.length q.c1, .slice q.a2 d.sd.length q.c2, .slice q.a3 d.sx.length q.c3, .slice q.a4 d.rv.length q.c4] 26)).heap[w3.heap.size]? = some (.cells #[.int .i64 d.st, .slice q.a1 d.se.length q.c1, .slice q.a2 d.sd.length q.c2, .slice q.a3 d.sx.length q.c3, .slice q.a4 d.rv.length q.c4] 26 (0, 0)) := heap_alloc_new w3 _
         have hs4 : w3.heap.size < (w3.alloc (.cells #[.int .i64 d.st, .slice q.a1 d.se.length q.c1, .slice q.a2 d.sd.length q.c2, .slice q.a3 d.sx.length q.c3, .slice q.a4 d.rv.length q.c4] 26)).heap.size := by simp
         have Hown4 : Hid (OwnD (w3.alloc (.cells #[.int .i64 d.st, .slice q.a1 d.se.length q.c1, .slice q.a2 d.sd.length q.c2, .slice q.a3 d.sx.length q.c3, .slice q.a4 d.rv.length q.c4] 26)) (w.heap.size + 2) q d) := Lib.hid (Hown3.out.below (Below.alloc (Below.refl _ _) (Nat.le_refl _) _))
         have Hz4 := Lib.hid hz4
         have Ht4 := Lib.hid ht4
         clear hown3 hb3 hz4 ht4)
      | fail)
    have hz5 := box5 (x := .int .i64 (d.st)) (y := .slice p.a1 d.se.length p.c1) (z := .slice p.a2 d.sd.length p.c2) (u := .slice p.a3 d.sx.length p.c3) (v := .slice p.a4 d.rv.length p.c4) Hz1.out
    have y0 := cell_of_row _ _ 0 _ _ _ hz5
    have y1 := cell_of_row _ _ 1 _ _ _ hz5
    have y2 := cell_of_row _ _ 2 _ _ _ hz5
    have y3 := cell_of_row _ _ 3 _ _ _ hz5
    have y4 := cell_of_row _ _ 4 _ _ _ hz5
    refine bodyPost_ret (v := .tuple #[.agg #[.int .i64 (d.st), .slice p.a1 d.se.length p.c1, .slice p.a2 d.sd.length p.c2, .slice p.a3 d.sx.length p.c3, .slice p.a4 d.rv.length p.c4], .int .i64 22]) (by simp [results, Try.results18, go_sem, *]) rfl ?_
    exact ⟨p, rfl, .inl ⟨rfl, rfl⟩, box5_below HB1.out (by omega)⟩
end Go.Proofs.Ytbkkmgofjhaaoaa
