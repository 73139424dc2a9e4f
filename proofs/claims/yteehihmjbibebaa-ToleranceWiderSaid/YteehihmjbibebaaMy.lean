/- ToleranceWider: the walk. -/
import Derived.Test.YteehihmjbibebaaMx
namespace Go.Proofs.Yteehihmjbibebaa
open Go.RowKit
set_option linter.unusedVariables false
set_option linter.unusedSimpArgs false

set_option maxHeartbeats 8000000 in
set_option maxRecDepth 100000 in
theorem widerLaw (c a b d m : Int) (w : World) (hc : 0 ≤ c ∧ c ≤ 65535) (ha : 0 ≤ a ∧ a ≤ 65535) (hb : 0 ≤ b ∧ b ≤ 255) (hd : 0 ≤ d ∧ d ≤ 255) (hm : 0 ≤ m ∧ m ≤ 255) :
    Calls Try.prog 4 #[.int .u16 c, .int .u16 a, .int .u8 b, .int .u8 d, .int .u8 m] w fun e w' => e = .returned (.bool true) ∧ Below w.heap.size w w' := by
  have ht : 0 ≤ d.tmod 201 ∧ d.tmod 201 ≤ 200 := ⟨Int.tmod_nonneg _ hd.1, by have := Int.tmod_lt_of_pos d (show (0 : Int) < 201 by omega); omega⟩
  obtain ⟨v, hv⟩ : ∃ v, d.tmod 201 = v := ⟨_, rfl⟩
  rw [hv] at ht
  have hv1 : IntKind.i64.wrap v = v := IntWalk.i64_in _ (by omega)
  have hv2 : wrap64 v = v := by unfold wrap64; omega
  have hv3 : IntKind.i64.wrap (v + m) = v + m := IntWalk.i64_in _ (by omega)
  have hu : 0 ≤ min (v + m) 200 ∧ min (v + m) 200 ≤ 200 ∧ v ≤ min (v + m) 200 := by omega
  have H1 := Lib.hid (fun W => marginT_any a b v W)
  have H2 := Lib.hid (fun W => marginT_any a b (min (v + m) 200) W)
  have H3 := Lib.hid (fun W => decideT_any c a b v W)
  have H4 := Lib.hid (fun W => decideT_any c a b (min (v + m) 200) W)
  have hk : min a ((b * v + 99) / 100) ≤ min a ((b * min (v + m) 200 + 99) / 100) := by
    have h1 : b * v ≤ b * min (v + m) 200 := Int.mul_le_mul_of_nonneg_left hu.2.2 hb.1
    omega
  unfold marginV at H1 H2
  unfold decideV at H3 H4
  rw [chk_in (by omega) ha hb ht, if_pos rfl] at H1
  rw [chk_in (by omega) ha hb ⟨hu.1, hu.2.1⟩, if_pos rfl] at H2
  rw [chk_in hc ha hb ht, if_pos rfl] at H3
  rw [chk_in hc ha hb ⟨hu.1, hu.2.1⟩, if_pos rfl] at H4
  generalize min a ((b * v + 99) / 100) = k at *
  generalize min a ((b * min (v + m) 200 + 99) / 100) = k2 at *
  have hkd : decide (k ≤ k2) = true := decide_eq_true hk
  have Hu := Lib.hid hu
  clear hu
  rcases (show c ≤ a ∨ (¬ c ≤ a ∧ k < c - a ∧ k2 < c - a) ∨ (¬ c ≤ a ∧ k < c - a ∧ ¬ k2 < c - a) ∨ (¬ c ≤ a ∧ ¬ k < c - a) by omega) with h1 | ⟨h1, h2, h3⟩ | ⟨h1, h2, h3⟩ | ⟨h1, h2⟩
  · rw [if_pos h1] at H3 H4
    all_goals
      go_enter Try.func4, Try.ntmps4
      go_upto_region 4 with fail
      obtain ⟨w2, hw2⟩ : ∃ w2 : World, w2 = w.alloc (.cells #[.int .i64 a, .int .i64 b] 24) := ⟨_, rfl⟩
      rw [← hw2]
      have hr2 : w2.heap[w.heap.size]? = some (.cells #[.int .i64 a, .int .i64 b] 24 (0, 0)) := by rw [hw2]; exact heap_alloc_new w _
      have hs2 : w.heap.size < w2.heap.size := by rw [hw2]; simp
      have Hb2 : Hid (Below w.heap.size w w2) := Lib.hid (by rw [hw2]; exact (by repeat' (first | with_reducible exact Below.refl _ _ | with_reducible refine below_drewN ?_ _ | with_reducible refine Below.drew ?_ | with_reducible refine Below.alloc ?_ ?_ _ | with_reducible refine Below.setCell ?_ ?_ _ | with_reducible refine Below.trans ?_ (Below.mono (by with_reducible assumption) ?_) | (simp; done) | (simp; omega) | omega)))
      have Hr2 := Lib.hid hr2
      have c0 := cell_of_row w2 w.heap.size 0 _ _ _ hr2
      have c1 := cell_of_row w2 w.heap.size 1 _ _ _ hr2
      clear hw2 hr2
      go_upto_region 5 with (first
        | (go_at_call 6
           refine (H1.out _).mono ?_
           rintro e w3 ⟨rfl, hb3⟩
           have Hr3 := Lib.hid ((hb3.block _ hs2).trans Hr2.out)
           have hs3 := Nat.lt_of_lt_of_le hs2 hb3.size
           have Hb3 : Hid (Below w.heap.size w w3) := Lib.hid (Hb2.out.trans (hb3.mono Hb2.out.size))
           have c30 := cell_of_row w3 w.heap.size 0 _ _ _ Hr3.out
           have c31 := cell_of_row w3 w.heap.size 1 _ _ _ Hr3.out
           clear hb3)
        | fail)
      go_upto_region 6 with (first
        | (go_at_call 6
           refine (H2.out _).mono ?_
           rintro e w4 ⟨rfl, hb4⟩
           have Hr4 := Lib.hid ((hb4.block _ hs3).trans Hr3.out)
           have hs4 := Nat.lt_of_lt_of_le hs3 hb4.size
           have Hb4 : Hid (Below w.heap.size w w4) := Lib.hid (Hb3.out.trans (hb4.mono Hb3.out.size))
           have c40 := cell_of_row w4 w.heap.size 0 _ _ _ Hr4.out
           have c41 := cell_of_row w4 w.heap.size 1 _ _ _ Hr4.out
           clear hb4)
        | fail)
      go_upto_region 7 with (first
        | (go_at_call 8
           refine (H3.out _).mono ?_
           rintro e w5 ⟨rfl, hb5⟩
           have Hr5 := Lib.hid ((hb5.block _ hs4).trans Hr4.out)
           have hs5 := Nat.lt_of_lt_of_le hs4 hb5.size
           have Hb5 : Hid (Below w.heap.size w w5) := Lib.hid (Hb4.out.trans (hb5.mono Hb4.out.size))
           have c50 := cell_of_row w5 w.heap.size 0 _ _ _ Hr5.out
           have c51 := cell_of_row w5 w.heap.size 1 _ _ _ Hr5.out
           clear hb5)
        | fail)
      go_upto_region 8 with (first
        | (go_at_call 8
           refine (H4.out _).mono ?_
           rintro e w6 ⟨rfl, hb6⟩
           have Hr6 := Lib.hid ((hb6.block _ hs5).trans Hr5.out)
           have hs6 := Nat.lt_of_lt_of_le hs5 hb6.size
           have Hb6 : Hid (Below w.heap.size w w6) := Lib.hid (Hb5.out.trans (hb6.mono Hb5.out.size))
           have c60 := cell_of_row w6 w.heap.size 0 _ _ _ Hr6.out
           have c61 := cell_of_row w6 w.heap.size 1 _ _ _ Hr6.out
           clear hb6)
        | fail)
      go_wp2_with (first
        | (go_at_call 9
           refine (awake8_any _).mono ?_
           rintro e w7 ⟨rfl, hb7⟩
           have Hb7 := Lib.hid (Hb6.out.trans (hb7.mono (Nat.le_of_lt hs6)))
           clear hb7)
        | fail)
      go_ret
      exact ⟨rfl, Hb7.out⟩
  · rw [if_neg h1, if_pos h2] at H3
    rw [if_neg h1, if_pos h3] at H4
    all_goals
      go_enter Try.func4, Try.ntmps4
      go_upto_region 4 with fail
      obtain ⟨w2, hw2⟩ : ∃ w2 : World, w2 = w.alloc (.cells #[.int .i64 a, .int .i64 b] 24) := ⟨_, rfl⟩
      rw [← hw2]
      have hr2 : w2.heap[w.heap.size]? = some (.cells #[.int .i64 a, .int .i64 b] 24 (0, 0)) := by rw [hw2]; exact heap_alloc_new w _
      have hs2 : w.heap.size < w2.heap.size := by rw [hw2]; simp
      have Hb2 : Hid (Below w.heap.size w w2) := Lib.hid (by rw [hw2]; exact (by repeat' (first | with_reducible exact Below.refl _ _ | with_reducible refine below_drewN ?_ _ | with_reducible refine Below.drew ?_ | with_reducible refine Below.alloc ?_ ?_ _ | with_reducible refine Below.setCell ?_ ?_ _ | with_reducible refine Below.trans ?_ (Below.mono (by with_reducible assumption) ?_) | (simp; done) | (simp; omega) | omega)))
      have Hr2 := Lib.hid hr2
      have c0 := cell_of_row w2 w.heap.size 0 _ _ _ hr2
      have c1 := cell_of_row w2 w.heap.size 1 _ _ _ hr2
      clear hw2 hr2
      go_upto_region 5 with (first
        | (go_at_call 6
           refine (H1.out _).mono ?_
           rintro e w3 ⟨rfl, hb3⟩
           have Hr3 := Lib.hid ((hb3.block _ hs2).trans Hr2.out)
           have hs3 := Nat.lt_of_lt_of_le hs2 hb3.size
           have Hb3 : Hid (Below w.heap.size w w3) := Lib.hid (Hb2.out.trans (hb3.mono Hb2.out.size))
           have c30 := cell_of_row w3 w.heap.size 0 _ _ _ Hr3.out
           have c31 := cell_of_row w3 w.heap.size 1 _ _ _ Hr3.out
           clear hb3)
        | fail)
      go_upto_region 6 with (first
        | (go_at_call 6
           refine (H2.out _).mono ?_
           rintro e w4 ⟨rfl, hb4⟩
           have Hr4 := Lib.hid ((hb4.block _ hs3).trans Hr3.out)
           have hs4 := Nat.lt_of_lt_of_le hs3 hb4.size
           have Hb4 : Hid (Below w.heap.size w w4) := Lib.hid (Hb3.out.trans (hb4.mono Hb3.out.size))
           have c40 := cell_of_row w4 w.heap.size 0 _ _ _ Hr4.out
           have c41 := cell_of_row w4 w.heap.size 1 _ _ _ Hr4.out
           clear hb4)
        | fail)
      go_upto_region 7 with (first
        | (go_at_call 8
           refine (H3.out _).mono ?_
           rintro e w5 ⟨rfl, hb5⟩
           have Hr5 := Lib.hid ((hb5.block _ hs4).trans Hr4.out)
           have hs5 := Nat.lt_of_lt_of_le hs4 hb5.size
           have Hb5 : Hid (Below w.heap.size w w5) := Lib.hid (Hb4.out.trans (hb5.mono Hb4.out.size))
           have c50 := cell_of_row w5 w.heap.size 0 _ _ _ Hr5.out
           have c51 := cell_of_row w5 w.heap.size 1 _ _ _ Hr5.out
           clear hb5)
        | fail)
      go_upto_region 8 with (first
        | (go_at_call 8
           refine (H4.out _).mono ?_
           rintro e w6 ⟨rfl, hb6⟩
           have Hr6 := Lib.hid ((hb6.block _ hs5).trans Hr5.out)
           have hs6 := Nat.lt_of_lt_of_le hs5 hb6.size
           have Hb6 : Hid (Below w.heap.size w w6) := Lib.hid (Hb5.out.trans (hb6.mono Hb5.out.size))
           have c60 := cell_of_row w6 w.heap.size 0 _ _ _ Hr6.out
           have c61 := cell_of_row w6 w.heap.size 1 _ _ _ Hr6.out
           clear hb6)
        | fail)
      go_wp2_with (first
        | (go_at_call 9
           refine (awake8_any _).mono ?_
           rintro e w7 ⟨rfl, hb7⟩
           have Hb7 := Lib.hid (Hb6.out.trans (hb7.mono (Nat.le_of_lt hs6)))
           clear hb7)
        | fail)
      go_ret
      exact ⟨rfl, Hb7.out⟩
  · rw [if_neg h1, if_pos h2] at H3
    rw [if_neg h1, if_neg h3] at H4
    all_goals
      go_enter Try.func4, Try.ntmps4
      go_upto_region 4 with fail
      obtain ⟨w2, hw2⟩ : ∃ w2 : World, w2 = w.alloc (.cells #[.int .i64 a, .int .i64 b] 24) := ⟨_, rfl⟩
      rw [← hw2]
      have hr2 : w2.heap[w.heap.size]? = some (.cells #[.int .i64 a, .int .i64 b] 24 (0, 0)) := by rw [hw2]; exact heap_alloc_new w _
      have hs2 : w.heap.size < w2.heap.size := by rw [hw2]; simp
      have Hb2 : Hid (Below w.heap.size w w2) := Lib.hid (by rw [hw2]; exact (by repeat' (first | with_reducible exact Below.refl _ _ | with_reducible refine below_drewN ?_ _ | with_reducible refine Below.drew ?_ | with_reducible refine Below.alloc ?_ ?_ _ | with_reducible refine Below.setCell ?_ ?_ _ | with_reducible refine Below.trans ?_ (Below.mono (by with_reducible assumption) ?_) | (simp; done) | (simp; omega) | omega)))
      have Hr2 := Lib.hid hr2
      have c0 := cell_of_row w2 w.heap.size 0 _ _ _ hr2
      have c1 := cell_of_row w2 w.heap.size 1 _ _ _ hr2
      clear hw2 hr2
      go_upto_region 5 with (first
        | (go_at_call 6
           refine (H1.out _).mono ?_
           rintro e w3 ⟨rfl, hb3⟩
           have Hr3 := Lib.hid ((hb3.block _ hs2).trans Hr2.out)
           have hs3 := Nat.lt_of_lt_of_le hs2 hb3.size
           have Hb3 : Hid (Below w.heap.size w w3) := Lib.hid (Hb2.out.trans (hb3.mono Hb2.out.size))
           have c30 := cell_of_row w3 w.heap.size 0 _ _ _ Hr3.out
           have c31 := cell_of_row w3 w.heap.size 1 _ _ _ Hr3.out
           clear hb3)
        | fail)
      go_upto_region 6 with (first
        | (go_at_call 6
           refine (H2.out _).mono ?_
           rintro e w4 ⟨rfl, hb4⟩
           have Hr4 := Lib.hid ((hb4.block _ hs3).trans Hr3.out)
           have hs4 := Nat.lt_of_lt_of_le hs3 hb4.size
           have Hb4 : Hid (Below w.heap.size w w4) := Lib.hid (Hb3.out.trans (hb4.mono Hb3.out.size))
           have c40 := cell_of_row w4 w.heap.size 0 _ _ _ Hr4.out
           have c41 := cell_of_row w4 w.heap.size 1 _ _ _ Hr4.out
           clear hb4)
        | fail)
      go_upto_region 7 with (first
        | (go_at_call 8
           refine (H3.out _).mono ?_
           rintro e w5 ⟨rfl, hb5⟩
           have Hr5 := Lib.hid ((hb5.block _ hs4).trans Hr4.out)
           have hs5 := Nat.lt_of_lt_of_le hs4 hb5.size
           have Hb5 : Hid (Below w.heap.size w w5) := Lib.hid (Hb4.out.trans (hb5.mono Hb4.out.size))
           have c50 := cell_of_row w5 w.heap.size 0 _ _ _ Hr5.out
           have c51 := cell_of_row w5 w.heap.size 1 _ _ _ Hr5.out
           clear hb5)
        | fail)
      go_upto_region 8 with (first
        | (go_at_call 8
           refine (H4.out _).mono ?_
           rintro e w6 ⟨rfl, hb6⟩
           have Hr6 := Lib.hid ((hb6.block _ hs5).trans Hr5.out)
           have hs6 := Nat.lt_of_lt_of_le hs5 hb6.size
           have Hb6 : Hid (Below w.heap.size w w6) := Lib.hid (Hb5.out.trans (hb6.mono Hb5.out.size))
           have c60 := cell_of_row w6 w.heap.size 0 _ _ _ Hr6.out
           have c61 := cell_of_row w6 w.heap.size 1 _ _ _ Hr6.out
           clear hb6)
        | fail)
      go_wp2_with (first
        | (go_at_call 9
           refine (awake8_any _).mono ?_
           rintro e w7 ⟨rfl, hb7⟩
           have Hb7 := Lib.hid (Hb6.out.trans (hb7.mono (Nat.le_of_lt hs6)))
           clear hb7)
        | fail)
      go_ret
      exact ⟨rfl, Hb7.out⟩
  · rw [if_neg h1, if_neg h2] at H3
    rw [if_neg h1, if_neg (by omega)] at H4
    all_goals
      go_enter Try.func4, Try.ntmps4
      go_upto_region 4 with fail
      obtain ⟨w2, hw2⟩ : ∃ w2 : World, w2 = w.alloc (.cells #[.int .i64 a, .int .i64 b] 24) := ⟨_, rfl⟩
      rw [← hw2]
      have hr2 : w2.heap[w.heap.size]? = some (.cells #[.int .i64 a, .int .i64 b] 24 (0, 0)) := by rw [hw2]; exact heap_alloc_new w _
      have hs2 : w.heap.size < w2.heap.size := by rw [hw2]; simp
      have Hb2 : Hid (Below w.heap.size w w2) := Lib.hid (by rw [hw2]; exact (by repeat' (first | with_reducible exact Below.refl _ _ | with_reducible refine below_drewN ?_ _ | with_reducible refine Below.drew ?_ | with_reducible refine Below.alloc ?_ ?_ _ | with_reducible refine Below.setCell ?_ ?_ _ | with_reducible refine Below.trans ?_ (Below.mono (by with_reducible assumption) ?_) | (simp; done) | (simp; omega) | omega)))
      have Hr2 := Lib.hid hr2
      have c0 := cell_of_row w2 w.heap.size 0 _ _ _ hr2
      have c1 := cell_of_row w2 w.heap.size 1 _ _ _ hr2
      clear hw2 hr2
      go_upto_region 5 with (first
        | (go_at_call 6
           refine (H1.out _).mono ?_
           rintro e w3 ⟨rfl, hb3⟩
           have Hr3 := Lib.hid ((hb3.block _ hs2).trans Hr2.out)
           have hs3 := Nat.lt_of_lt_of_le hs2 hb3.size
           have Hb3 : Hid (Below w.heap.size w w3) := Lib.hid (Hb2.out.trans (hb3.mono Hb2.out.size))
           have c30 := cell_of_row w3 w.heap.size 0 _ _ _ Hr3.out
           have c31 := cell_of_row w3 w.heap.size 1 _ _ _ Hr3.out
           clear hb3)
        | fail)
      go_upto_region 6 with (first
        | (go_at_call 6
           refine (H2.out _).mono ?_
           rintro e w4 ⟨rfl, hb4⟩
           have Hr4 := Lib.hid ((hb4.block _ hs3).trans Hr3.out)
           have hs4 := Nat.lt_of_lt_of_le hs3 hb4.size
           have Hb4 : Hid (Below w.heap.size w w4) := Lib.hid (Hb3.out.trans (hb4.mono Hb3.out.size))
           have c40 := cell_of_row w4 w.heap.size 0 _ _ _ Hr4.out
           have c41 := cell_of_row w4 w.heap.size 1 _ _ _ Hr4.out
           clear hb4)
        | fail)
      go_upto_region 7 with (first
        | (go_at_call 8
           refine (H3.out _).mono ?_
           rintro e w5 ⟨rfl, hb5⟩
           have Hr5 := Lib.hid ((hb5.block _ hs4).trans Hr4.out)
           have hs5 := Nat.lt_of_lt_of_le hs4 hb5.size
           have Hb5 : Hid (Below w.heap.size w w5) := Lib.hid (Hb4.out.trans (hb5.mono Hb4.out.size))
           have c50 := cell_of_row w5 w.heap.size 0 _ _ _ Hr5.out
           have c51 := cell_of_row w5 w.heap.size 1 _ _ _ Hr5.out
           clear hb5)
        | fail)
      go_upto_region 8 with (first
        | (go_at_call 8
           refine (H4.out _).mono ?_
           rintro e w6 ⟨rfl, hb6⟩
           have Hr6 := Lib.hid ((hb6.block _ hs5).trans Hr5.out)
           have hs6 := Nat.lt_of_lt_of_le hs5 hb6.size
           have Hb6 : Hid (Below w.heap.size w w6) := Lib.hid (Hb5.out.trans (hb6.mono Hb5.out.size))
           have c60 := cell_of_row w6 w.heap.size 0 _ _ _ Hr6.out
           have c61 := cell_of_row w6 w.heap.size 1 _ _ _ Hr6.out
           clear hb6)
        | fail)
      go_wp2_with (first
        | (go_at_call 9
           refine (awake8_any _).mono ?_
           rintro e w7 ⟨rfl, hb7⟩
           have Hb7 := Lib.hid (Hb6.out.trans (hb7.mono (Nat.le_of_lt hs6)))
           clear hb7)
        | fail)
      go_ret
      exact ⟨rfl, Hb7.out⟩
end Go.Proofs.Yteehihmjbibebaa
