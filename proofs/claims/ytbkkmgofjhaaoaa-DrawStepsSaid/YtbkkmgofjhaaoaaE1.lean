/- Contract: the law's sanity check (draw). -/
import Derived.Test.YtbkkmgofjhaaoaaDZ
import Derived.Test.YtbkkmgofjhaaoaaD9b
import Derived.Test.YtbkkmgofjhaaoaaD9c
namespace Go.Proofs.Ytbkkmgofjhaaoaa
open Go.RowKit
set_option linter.unusedVariables false
set_option linter.unusedSimpArgs false

set_option maxHeartbeats 1000000 in
set_option maxRecDepth 100000 in
theorem awake_any (w : World) : Calls Try.prog 9 #[] w fun e w' => e = .returned (.bool true) ∧ Below w.heap.size w w' := by
  obtain ⟨s0, hs0⟩ : ∃ s0, sealI 0 7 9 = s0 := ⟨_, rfl⟩
  have HS := Lib.hid (fun W => seal_any 0 7 9 W)
  rw [hs0] at HS
  have Hc := Lib.hid (aw_commit s0)
  go_enter Try.func9, Try.ntmps9
  go_upto_region 2 with (first
    | (go_at_call 26
       refine (newD_any 1 _).mono ?_
       rintro e w1 ⟨q, rfl, hown1, hb1⟩
       rw [aw_new] at hown1 ⊢
       have hbx := Bx.start (w0 := w) hown1 hb1
       have Hbx := Lib.hid hbx
       clear hown1 hb1 hbx)
    | fail)
  obtain ⟨W1, hW1⟩ : ∃ W1 : World, W1 = w1.alloc (.cells #[.int .i64 1, .slice q.a1 1 q.c1, .slice q.a2 1 q.c2, .slice q.a3 1 q.c3, .slice q.a4 1 q.c4] 26) := ⟨_, rfl⟩
  obtain ⟨B, hB⟩ : ∃ B, w1.heap.size = B := ⟨_, rfl⟩
  rw [← hW1, hB]
  have HB1 : Hid (Bx w W1 B q ⟨1, [0], [false], [0], [false]⟩) := Lib.hid (by rw [hW1, ← hB]; exact Hbx.out)
  have Hcm : Hid (∀ W, Below W1.heap.size W1 W → Calls Try.prog 17 #[.agg #[.int .i64 1, .slice q.a1 1 q.c1, .slice q.a2 1 q.c2, .slice q.a3 1 q.c3, .slice q.a4 1 q.c4], .int .i64 0, .int .u64 s0] W (DrEPost W (⟨1, [s0], [true], [0], [false]⟩, 0))) := Lib.hid (fun W hW => by
    have := commit_any q ⟨1, [0], [false], [0], [false]⟩ 0 s0 W (HB1.out.dr.below hW) (by simp [Dr.small])
    rw [Hc.out] at this
    exact this)
  obtain ⟨⟨z0, z1, z2, z3, z4⟩, g0, g1, g2, g3, g4⟩ := HB1.out.cells (Below.refl _ _)
  clear Hbx hW1 hB
  simp only [List.length_cons, List.length_nil, Nat.zero_add] at z1 z2 z3 z4
  go_cut [3] (fun s3 wx => s3 = .int .i64 0 ∧ ∃ q1 : DV, Bx w wx B q1 ⟨1, [s0], [true], [0], [false]⟩)
  case first =>
    go_region_with ((first
      | (go_at_call 33; refine (HS.out _).mono ?_; rintro e w2 ⟨rfl, rfl⟩)
      | (go_at_call 17
         refine (Hcm.out _ (by repeat' (first | with_reducible exact Below.refl _ _ | with_reducible refine below_drewN ?_ _ | with_reducible refine Below.drew ?_ | with_reducible refine Below.alloc ?_ ?_ _ | with_reducible refine Below.setCell ?_ ?_ _ | with_reducible refine Below.trans ?_ (Below.mono (by with_reducible assumption) ?_) | (simp; done) | (simp; omega) | omega))).mono ?_
         rintro e w3 ⟨q1, rfl, hown3, hb3⟩
         have hbx3 := HB1.out.step (q1 := q1) (W1 := w3) hown3 (by have hbq := hb3; exact (by repeat' (first | with_reducible exact Below.refl _ _ | with_reducible assumption | with_reducible refine below_drewN ?_ _ | with_reducible refine Below.drew ?_ | with_reducible refine Below.alloc ?_ ?_ _ | with_reducible refine Below.setCell ?_ ?_ _ | with_reducible refine Below.trans ?_ (Below.mono (by with_reducible assumption) ?_) | with_reducible refine below_only ?_ (by with_reducible assumption) ?_ ?_ | (simp; done) | (simp; omega) | omega)))
         have Hbx3 := Lib.hid hbx3
         obtain ⟨⟨y0, y1, y2, y3, y4⟩, f0, f1, f2, f3, f4⟩ := HB1.out.cells (W1 := w3) (by have hbq := hb3; exact (by repeat' (first | with_reducible exact Below.refl _ _ | with_reducible assumption | with_reducible refine below_drewN ?_ _ | with_reducible refine Below.drew ?_ | with_reducible refine Below.alloc ?_ ?_ _ | with_reducible refine Below.setCell ?_ ?_ _ | with_reducible refine Below.trans ?_ (Below.mono (by with_reducible assumption) ?_) | with_reducible refine below_only ?_ (by with_reducible assumption) ?_ ?_ | (simp; done) | (simp; omega) | omega)))
         simp only [List.length_cons, List.length_nil, Nat.zero_add] at y1 y2 y3 y4
         clear hown3 hb3 hbx3)
      | fail))
    all_goals go_wp2
    all_goals go_meet
    all_goals exact ⟨rfl, q1, Hbx3.out⟩
  case rest =>
    obtain ⟨wx, rfl⟩ : ∃ wx : World, wx = wc := ⟨_, rfl⟩
    obtain ⟨rfl, q1, hbx⟩ := hcut
    have HXn := Lib.hid hbx
    have HKn : Hid (∀ W, Below wx.heap.size wx W → Calls Try.prog 20 #[.agg #[.int .i64 1, .slice q1.a1 1 q1.c1, .slice q1.a2 1 q1.c2, .slice q1.a3 1 q1.c3, .slice q1.a4 1 q1.c4]] W (DrEPost W (⟨2, [s0], [true], [0], [false]⟩, 0))) := Lib.hid (fun W hW => by
      have := close_any q1 ⟨1, [s0], [true], [0], [false]⟩ W (HXn.out.dr.below hW) (by simp [Dr.small])
      rw [aw_close] at this
      exact this)
    obtain ⟨⟨z0, z1, z2, z3, z4⟩, g0, g1, g2, g3, g4⟩ := HXn.out.cells (Below.refl _ _)
    simp only [List.length_cons, List.length_nil, Nat.zero_add] at z1 z2 z3 z4
    clear hbx
    go_upto_region 4 with (first
      | (go_at_call 20
         refine (HKn.out _ (by repeat' (first | with_reducible exact Below.refl _ _ | with_reducible refine below_drewN ?_ _ | with_reducible refine Below.drew ?_ | with_reducible refine Below.alloc ?_ ?_ _ | with_reducible refine Below.setCell ?_ ?_ _ | with_reducible refine Below.trans ?_ (Below.mono (by with_reducible assumption) ?_) | (simp; done) | (simp; omega) | omega))).mono ?_
         rintro e w3 ⟨q2, rfl, hown3, hb3⟩
         have hbx := HXn.out.step (q1 := q2) (W1 := w3) hown3 (by have hbq := hb3; exact (by repeat' (first | with_reducible exact Below.refl _ _ | with_reducible assumption | with_reducible refine below_drewN ?_ _ | with_reducible refine Below.drew ?_ | with_reducible refine Below.alloc ?_ ?_ _ | with_reducible refine Below.setCell ?_ ?_ _ | with_reducible refine Below.trans ?_ (Below.mono (by with_reducible assumption) ?_) | with_reducible refine below_only ?_ (by with_reducible assumption) ?_ ?_ | (simp; done) | (simp; omega) | omega)))
         obtain ⟨⟨y0, y1, y2, y3, y4⟩, f0, f1, f2, f3, f4⟩ := HXn.out.cells (W1 := w3) (by have hbq := hb3; exact (by repeat' (first | with_reducible exact Below.refl _ _ | with_reducible assumption | with_reducible refine below_drewN ?_ _ | with_reducible refine Below.drew ?_ | with_reducible refine Below.alloc ?_ ?_ _ | with_reducible refine Below.setCell ?_ ?_ _ | with_reducible refine Below.trans ?_ (Below.mono (by with_reducible assumption) ?_) | with_reducible refine below_only ?_ (by with_reducible assumption) ?_ ?_ | (simp; done) | (simp; omega) | omega)))
         simp only [List.length_cons, List.length_nil, Nat.zero_add] at y1 y2 y3 y4
         clear hown3 hb3)
      | fail)
    simp only [List.length_cons, List.length_nil, Nat.zero_add] at hbx
    clear y0 y1 y2 y3 y4 f0 f1 f2 f3 f4 z0 z1 z2 z3 z4 g0 g1 g2 g3 g4 HKn HXn
    generalize ((((w3.setCell ⟨B, 0, none⟩ (.int .i64 2)).setCell ⟨B, 1, none⟩ (.slice q2.a1 1 q2.c1)).setCell ⟨B, 2, none⟩ (.slice q2.a2 1 q2.c2)).setCell ⟨B, 3, none⟩ (.slice q2.a3 1 q2.c3)).setCell ⟨B, 4, none⟩ (.slice q2.a4 1 q2.c4) = wx at *
    have HXn := Lib.hid hbx
    have HKn : Hid (∀ W, Below wx.heap.size wx W → Calls Try.prog 22 #[.agg #[.int .i64 2, .slice q2.a1 1 q2.c1, .slice q2.a2 1 q2.c2, .slice q2.a3 1 q2.c3, .slice q2.a4 1 q2.c4], .int .i64 0, .int .u64 7, .int .u64 9] W (DrEPost W (⟨2, [s0], [true], [7], [true]⟩, 0))) := Lib.hid (fun W hW => by
      have := reveal_any q2 ⟨2, [s0], [true], [0], [false]⟩ 0 7 9 W (HXn.out.dr.below hW) (by simp [Dr.small])
      rw [← hs0, aw_reveal, hs0] at this
      exact this)
    obtain ⟨⟨z0, z1, z2, z3, z4⟩, g0, g1, g2, g3, g4⟩ := HXn.out.cells (Below.refl _ _)
    simp only [List.length_cons, List.length_nil, Nat.zero_add] at z1 z2 z3 z4
    clear hbx
    go_upto_region 5 with (first
      | (go_at_call 22
         refine (HKn.out _ (by repeat' (first | with_reducible exact Below.refl _ _ | with_reducible refine below_drewN ?_ _ | with_reducible refine Below.drew ?_ | with_reducible refine Below.alloc ?_ ?_ _ | with_reducible refine Below.setCell ?_ ?_ _ | with_reducible refine Below.trans ?_ (Below.mono (by with_reducible assumption) ?_) | (simp; done) | (simp; omega) | omega))).mono ?_
         rintro e w3 ⟨q3, rfl, hown3, hb3⟩
         have hbx := HXn.out.step (q1 := q3) (W1 := w3) hown3 (by have hbq := hb3; exact (by repeat' (first | with_reducible exact Below.refl _ _ | with_reducible assumption | with_reducible refine below_drewN ?_ _ | with_reducible refine Below.drew ?_ | with_reducible refine Below.alloc ?_ ?_ _ | with_reducible refine Below.setCell ?_ ?_ _ | with_reducible refine Below.trans ?_ (Below.mono (by with_reducible assumption) ?_) | with_reducible refine below_only ?_ (by with_reducible assumption) ?_ ?_ | (simp; done) | (simp; omega) | omega)))
         obtain ⟨⟨y0, y1, y2, y3, y4⟩, f0, f1, f2, f3, f4⟩ := HXn.out.cells (W1 := w3) (by have hbq := hb3; exact (by repeat' (first | with_reducible exact Below.refl _ _ | with_reducible assumption | with_reducible refine below_drewN ?_ _ | with_reducible refine Below.drew ?_ | with_reducible refine Below.alloc ?_ ?_ _ | with_reducible refine Below.setCell ?_ ?_ _ | with_reducible refine Below.trans ?_ (Below.mono (by with_reducible assumption) ?_) | with_reducible refine below_only ?_ (by with_reducible assumption) ?_ ?_ | (simp; done) | (simp; omega) | omega)))
         simp only [List.length_cons, List.length_nil, Nat.zero_add] at y1 y2 y3 y4
         clear hown3 hb3)
      | fail)
    simp only [List.length_cons, List.length_nil, Nat.zero_add] at hbx
    clear y0 y1 y2 y3 y4 f0 f1 f2 f3 f4 z0 z1 z2 z3 z4 g0 g1 g2 g3 g4 HKn HXn
    generalize ((((w3.setCell ⟨B, 0, none⟩ (.int .i64 2)).setCell ⟨B, 1, none⟩ (.slice q3.a1 1 q3.c1)).setCell ⟨B, 2, none⟩ (.slice q3.a2 1 q3.c2)).setCell ⟨B, 3, none⟩ (.slice q3.a3 1 q3.c3)).setCell ⟨B, 4, none⟩ (.slice q3.a4 1 q3.c4) = wx at *
    have HXn := Lib.hid hbx
    have HKn : Hid (∀ W, Below wx.heap.size wx W → Calls Try.prog 24 #[.agg #[.int .i64 2, .slice q3.a1 1 q3.c1, .slice q3.a2 1 q3.c2, .slice q3.a3 1 q3.c3, .slice q3.a4 1 q3.c4]] W (DrEPost W (⟨3, [s0], [true], [7], [true]⟩, 0))) := Lib.hid (fun W hW => by
      have := finish_any q3 ⟨2, [s0], [true], [7], [true]⟩ W (HXn.out.dr.below hW) (by simp [Dr.small])
      rw [aw_finish] at this
      exact this)
    obtain ⟨⟨z0, z1, z2, z3, z4⟩, g0, g1, g2, g3, g4⟩ := HXn.out.cells (Below.refl _ _)
    simp only [List.length_cons, List.length_nil, Nat.zero_add] at z1 z2 z3 z4
    clear hbx
    go_upto_region 6 with (first
      | (go_at_call 24
         refine (HKn.out _ (by repeat' (first | with_reducible exact Below.refl _ _ | with_reducible refine below_drewN ?_ _ | with_reducible refine Below.drew ?_ | with_reducible refine Below.alloc ?_ ?_ _ | with_reducible refine Below.setCell ?_ ?_ _ | with_reducible refine Below.trans ?_ (Below.mono (by with_reducible assumption) ?_) | (simp; done) | (simp; omega) | omega))).mono ?_
         rintro e w3 ⟨q4, rfl, hown3, hb3⟩
         have hbx := HXn.out.step (q1 := q4) (W1 := w3) hown3 (by have hbq := hb3; exact (by repeat' (first | with_reducible exact Below.refl _ _ | with_reducible assumption | with_reducible refine below_drewN ?_ _ | with_reducible refine Below.drew ?_ | with_reducible refine Below.alloc ?_ ?_ _ | with_reducible refine Below.setCell ?_ ?_ _ | with_reducible refine Below.trans ?_ (Below.mono (by with_reducible assumption) ?_) | with_reducible refine below_only ?_ (by with_reducible assumption) ?_ ?_ | (simp; done) | (simp; omega) | omega)))
         obtain ⟨⟨y0, y1, y2, y3, y4⟩, f0, f1, f2, f3, f4⟩ := HXn.out.cells (W1 := w3) (by have hbq := hb3; exact (by repeat' (first | with_reducible exact Below.refl _ _ | with_reducible assumption | with_reducible refine below_drewN ?_ _ | with_reducible refine Below.drew ?_ | with_reducible refine Below.alloc ?_ ?_ _ | with_reducible refine Below.setCell ?_ ?_ _ | with_reducible refine Below.trans ?_ (Below.mono (by with_reducible assumption) ?_) | with_reducible refine below_only ?_ (by with_reducible assumption) ?_ ?_ | (simp; done) | (simp; omega) | omega)))
         simp only [List.length_cons, List.length_nil, Nat.zero_add] at y1 y2 y3 y4
         clear hown3 hb3)
      | fail)
    simp only [List.length_cons, List.length_nil, Nat.zero_add] at hbx
    clear y0 y1 y2 y3 y4 f0 f1 f2 f3 f4 z0 z1 z2 z3 z4 g0 g1 g2 g3 g4 HKn HXn
    generalize ((((w3.setCell ⟨B, 0, none⟩ (.int .i64 3)).setCell ⟨B, 1, none⟩ (.slice q4.a1 1 q4.c1)).setCell ⟨B, 2, none⟩ (.slice q4.a2 1 q4.c2)).setCell ⟨B, 3, none⟩ (.slice q4.a3 1 q4.c3)).setCell ⟨B, 4, none⟩ (.slice q4.a4 1 q4.c4) = wx at *
    have HX4 := Lib.hid hbx
    obtain ⟨mx, hmx⟩ : ∃ mx, mixI 7 = mx := ⟨_, rfl⟩
    have HSd : Hid (∀ W, Below wx.heap.size wx W → Calls Try.prog 28 #[.agg #[.int .i64 3, .slice q4.a1 1 q4.c1, .slice q4.a2 1 q4.c2, .slice q4.a3 1 q4.c3, .slice q4.a4 1 q4.c4]] W (SeedPost W (mx, [], 0))) := Lib.hid (fun W hW => by
      have := seed_any q4 ⟨3, [s0], [true], [7], [true]⟩ W (HX4.out.dr.below hW)
      rw [aw_seed, hmx] at this
      exact this)
    have HM7 := Lib.hid (fun W => mix_any 7 W)
    rw [hmx] at HM7
    obtain ⟨m0, hm0⟩ : ∃ m, mixI 0 = m := ⟨_, rfl⟩
    obtain ⟨m1, hm1⟩ : ∃ m, mixI 1 = m := ⟨_, rfl⟩
    have HM0 := Lib.hid (fun W => mix_any 0 W)
    have HM1 := Lib.hid (fun W => mix_any 1 W)
    rw [hm0] at HM0
    rw [hm1] at HM1
    have hm01 : ¬ m0 = m1 := by rw [← hm0, ← hm1]; exact aw_mix
    have HSa : Hid (∀ (B : Nat) (W : World), W.heap.size = B → Calls Try.prog 38 #[.int .u64 mx, .slice (some ⟨B, 0, none⟩) 3 3, .int .i64 3] (W.alloc (.cells #[.int .i64 5, .int .i64 3, .int .i64 8] 3)) (SamplePost (W.alloc (.cells #[.int .i64 5, .int .i64 3, .int .i64 8] 3)) ([3, 5, 8], 0))) := Lib.hid (fun B W hB => by
      have := sample_any mx (some ⟨B, 0, none⟩) 3 [5, 3, 8] 3 (W.alloc (.cells #[.int .i64 5, .int .i64 3, .int .i64 8] 3)) ⟨Nat.le_refl _, by unfold maxLen; decide, Lies.new W 3 #[.int .i64 5, .int .i64 3, .int .i64 8] 3 _ rfl B hB.symm⟩
      rw [aw_sample] at this
      exact this)
    obtain ⟨⟨z0, z1, z2, z3, z4⟩, g0, g1, g2, g3, g4⟩ := HX4.out.cells (Below.refl _ _)
    simp only [List.length_cons, List.length_nil, Nat.zero_add] at z1 z2 z3 z4
    clear hbx hmx hm0 hm1 hs0
    go_upto_region 7 with (first
      | (go_at_call 28
         refine (HSd.out _ (by repeat' (first | with_reducible exact Below.refl _ _ | with_reducible refine below_drewN ?_ _ | with_reducible refine Below.drew ?_ | with_reducible refine Below.alloc ?_ ?_ _ | with_reducible refine Below.setCell ?_ ?_ _ | with_reducible refine Below.trans ?_ (Below.mono (by with_reducible assumption) ?_) | (simp; done) | (simp; omega) | omega))).mono ?_
         rintro e w4 ⟨v4, rfl, hown4, hb4⟩
         obtain ⟨E, ec, rfl, _, _, _⟩ := own_slice hown4
         have Hb4 : Hid (Below w.heap.size w w4) := Lib.hid (HX4.out.bel.trans (hb4.mono HX4.out.bel.size))
         have hs4 := Hb4.out.size
         clear hown4 hb4)
      | fail)
    clear z0 z1 z2 z3 z4 g0 g1 g2 g3 g4
    go_wp2_with (first
      | (go_at_call 38
         refine (HSa.out _ w4 rfl).mono ?_
         rintro e w5 ⟨v5, rfl, hown5, hb5⟩
         obtain ⟨F, fc, rfl, _, _, _⟩ := own_slice hown5
         have Hb5 : Hid (Below w.heap.size w w5) := Lib.hid (Hb4.out.trans ((show Below w4.heap.size w4 w5 from (by have hbq := hb5; exact (by repeat' (first | with_reducible exact Below.refl _ _ | with_reducible assumption | with_reducible refine below_drewN ?_ _ | with_reducible refine Below.drew ?_ | with_reducible refine Below.alloc ?_ ?_ _ | with_reducible refine Below.setCell ?_ ?_ _ | with_reducible refine Below.trans ?_ (Below.mono (by with_reducible assumption) ?_) | with_reducible refine below_only ?_ (by with_reducible assumption) ?_ ?_ | (simp; done) | (simp; omega) | omega)))).mono hs4))
         have HF : Hid (Sl w5 F fc ([3, 5, 8].map (Value.int .i64))) := Lib.hid (Sl.of_own hown5 rfl)
         have hs5 := Hb5.out.size
         clear hown5 hb5)
      | (go_at_call_of 31 (Value.int IntKind.u64 7); refine (HM7.out _).mono ?_; rintro e w6 ⟨rfl, rfl⟩)
      | (go_at_call_of 31 (Value.int IntKind.u64 0); refine (HM0.out _).mono ?_; rintro e w6 ⟨rfl, rfl⟩)
      | (go_at_call_of 31 (Value.int IntKind.u64 1); refine (HM1.out _).mono ?_; rintro e w6 ⟨rfl, rfl⟩)
      | (go_at_call 30
         refine (ints_any F (some ⟨_, 0, none⟩) 3 3 fc 3 [3, 5, 8] [3, 5, 8] _ (HF.out.below (by repeat' (first | with_reducible exact Below.refl _ _ | with_reducible refine below_drewN ?_ _ | with_reducible refine Below.drew ?_ | with_reducible refine Below.alloc ?_ ?_ _ | with_reducible refine Below.setCell ?_ ?_ _ | with_reducible refine Below.trans ?_ (Below.mono (by with_reducible assumption) ?_) | (simp; done) | (simp; omega) | omega))) ⟨Nat.le_refl _, by unfold maxLen; decide, Lies.new _ _ _ 3 _ rfl _ rfl⟩ rfl rfl).mono ?_
         rintro e w7 ⟨rfl, hb7⟩
         have Hb7 := Lib.hid (Hb5.out.trans (Below.mono (show Below _ _ w7 from (by have hbq := hb7; exact (by repeat' (first | with_reducible exact Below.refl _ _ | with_reducible assumption | with_reducible refine below_drewN ?_ _ | with_reducible refine Below.drew ?_ | with_reducible refine Below.alloc ?_ ?_ _ | with_reducible refine Below.setCell ?_ ?_ _ | with_reducible refine Below.trans ?_ (Below.mono (by with_reducible assumption) ?_) | with_reducible refine below_only ?_ (by with_reducible assumption) ?_ ?_ | (simp; done) | (simp; omega) | omega)))) hs5))
         clear hb7)
      | fail)
    go_ret
    exact ⟨rfl, Hb7.out⟩
end Go.Proofs.Ytbkkmgofjhaaoaa
