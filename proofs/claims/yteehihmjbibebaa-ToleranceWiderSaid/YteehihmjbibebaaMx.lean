/- ToleranceBetween, ToleranceWider: the walks. -/
import Derived.Test.YteehihmjbibebaaMw
namespace Go.Proofs.Yteehihmjbibebaa
open Go.RowKit
set_option linter.unusedVariables false
set_option linter.unusedSimpArgs false

theorem bound_u16 {a : Int} (h : (Lit.int .u16 a).wf = true) : 0 ≤ a ∧ a ≤ 65535 := by have := h; simp [Lit.wf] at this; exact this
theorem chk_in {c a b wd : Int} (hc : 0 ≤ c ∧ c ≤ 65535) (ha : 0 ≤ a ∧ a ≤ 65535) (hb : 0 ≤ b ∧ b ≤ 255) (hw : 0 ≤ wd ∧ wd ≤ 200) : checkT c a b wd = 0 := (checkT_zero c a b wd).2 ⟨(measB_iff a b).2 (by omega), by omega, by omega, by omega, by omega⟩

set_option maxHeartbeats 8000000 in
set_option maxRecDepth 100000 in
theorem betweenLaw (c a b d : Int) (w : World) (hc : 0 ≤ c ∧ c ≤ 65535) (ha : 0 ≤ a ∧ a ≤ 65535) (hb : 0 ≤ b ∧ b ≤ 255) (hd : 0 ≤ d ∧ d ≤ 255) :
    Calls Try.prog 3 #[.int .u16 c, .int .u16 a, .int .u8 b, .int .u8 d] w fun e w' => e = .returned (.bool true) ∧ Below w.heap.size w w' := by
  have ht : 0 ≤ d.tmod 201 ∧ d.tmod 201 ≤ 200 := ⟨Int.tmod_nonneg _ hd.1, by have := Int.tmod_lt_of_pos d (show (0 : Int) < 201 by omega); omega⟩
  obtain ⟨v, hv⟩ : ∃ v, d.tmod 201 = v := ⟨_, rfl⟩
  rw [hv] at ht
  have hv1 : IntKind.i64.wrap v = v := IntWalk.i64_in _ (by omega)
  have hv2 : wrap64 v = v := by unfold wrap64; omega
  have hk : 0 ≤ min a ((b * v + 99) / 100) ∧ min a ((b * v + 99) / 100) ≤ a := by
    have h1 : 0 ≤ b * v := Int.mul_nonneg hb.1 ht.1
    omega
  have H1 := Lib.hid (fun W => marginT_any a b v W)
  have H2 := Lib.hid (fun W => acceptT_any c a b v W)
  have H3 := Lib.hid (fun W => decideT_any c a b v W)
  unfold marginV at H1
  unfold acceptV at H2
  unfold decideV at H3
  rw [chk_in (by omega) ha hb ht, if_pos rfl] at H1
  rw [chk_in hc ha hb ht, if_pos rfl] at H2 H3
  generalize min a ((b * v + 99) / 100) = k at *
  rcases (show (c ≤ a ∧ a - c ≤ k) ∨ (c ≤ a ∧ ¬ a - c ≤ k) ∨ (¬ c ≤ a ∧ c - a ≤ k) ∨ (¬ c ≤ a ∧ ¬ c - a ≤ k) by omega) with ⟨h1, h2⟩ | ⟨h1, h2⟩ | ⟨h1, h2⟩ | ⟨h1, h2⟩
  · rw [if_pos ⟨by omega, h2⟩] at H2
    rw [if_pos h1] at H3
    have h1d : decide (c ≤ a) = true := decide_eq_true h1
    have k0 : 0 ≤ k := hk.1
    have k0d : decide (0 ≤ k) = true := decide_eq_true k0
    have k1 : k ≤ a := hk.2
    have k1d : decide (k ≤ a) = true := decide_eq_true k1
    have g1 : c ≤ a + k := by omega
    have g1d : decide (c ≤ a + k) = true := decide_eq_true g1
    have g2 : a ≤ c + k := by omega
    have g2d : decide (a ≤ c + k) = true := decide_eq_true g2
    have g3 : ¬ a + k < c := by omega
    have g3d : decide (a + k < c) = false := decide_eq_false g3
    have g4 : c ≤ a + k := by omega
    have g4d : decide (c ≤ a + k) = true := decide_eq_true g4
    all_goals
      go_enter Try.func3, Try.ntmps3
      go_upto_region 3 with fail
      obtain ⟨w2, hw2⟩ : ∃ w2 : World, w2 = w.alloc (.cells #[.int .i64 a, .int .i64 b] 24) := ⟨_, rfl⟩
      rw [← hw2]
      have hr2 : w2.heap[w.heap.size]? = some (.cells #[.int .i64 a, .int .i64 b] 24 (0, 0)) := by rw [hw2]; exact heap_alloc_new w _
      have hs2 : w.heap.size < w2.heap.size := by rw [hw2]; simp
      have Hb2 : Hid (Below w.heap.size w w2) := Lib.hid (by rw [hw2]; exact (by repeat' (first | with_reducible exact Below.refl _ _ | with_reducible refine below_drewN ?_ _ | with_reducible refine Below.drew ?_ | with_reducible refine Below.alloc ?_ ?_ _ | with_reducible refine Below.setCell ?_ ?_ _ | with_reducible refine Below.trans ?_ (Below.mono (by with_reducible assumption) ?_) | (simp; done) | (simp; omega) | omega)))
      have Hr2 := Lib.hid hr2
      have c0 := cell_of_row w2 w.heap.size 0 _ _ _ hr2
      have c1 := cell_of_row w2 w.heap.size 1 _ _ _ hr2
      clear hw2 hr2
      go_upto_region 4 with (first
        | (go_at_call 6
           refine (H1.out _).mono ?_
           rintro e w3 ⟨rfl, hb3⟩
           have Hr3 := Lib.hid ((hb3.block _ hs2).trans Hr2.out)
           have hs3 := Nat.lt_of_lt_of_le hs2 hb3.size
           have Hb3 : Hid (Below w.heap.size w w3) := Lib.hid (Hb2.out.trans (hb3.mono Hb2.out.size))
           have d0 := cell_of_row w3 w.heap.size 0 _ _ _ Hr3.out
           have d1 := cell_of_row w3 w.heap.size 1 _ _ _ Hr3.out
           clear hb3 c0 c1)
        | fail)
      go_upto_region 5 with (first
        | (go_at_call 7
           refine (H2.out _).mono ?_
           rintro e w4 ⟨rfl, hb4⟩
           have Hr4 := Lib.hid ((hb4.block _ hs3).trans Hr3.out)
           have hs4 := Nat.lt_of_lt_of_le hs3 hb4.size
           have Hb4 : Hid (Below w.heap.size w w4) := Lib.hid (Hb3.out.trans (hb4.mono Hb3.out.size))
           have e0 := cell_of_row w4 w.heap.size 0 _ _ _ Hr4.out
           have e1 := cell_of_row w4 w.heap.size 1 _ _ _ Hr4.out
           clear hb4 d0 d1)
        | fail)
      go_upto_region 6 with (first
        | (go_at_call 8
           refine (H3.out _).mono ?_
           rintro e w5 ⟨rfl, hb5⟩
           have Hb5 : Hid (Below w.heap.size w w5) := Lib.hid (Hb4.out.trans (hb5.mono Hb4.out.size))
           have hs5 := Hb5.out.size
           clear hb5 e0 e1)
        | fail)
      have v1 : IntKind.i64.wrap (a + k) = a + k := IntWalk.i64_in _ (by omega)
      have v2 : IntKind.i64.wrap (c + k) = c + k := IntWalk.i64_in _ (by omega)
      have v3 : IntKind.i64.wrap (a + k) = a + k := IntWalk.i64_in _ (by omega)
      go_wp2_with (first
        | (go_at_call 9
           refine (awake8_any _).mono ?_
           rintro e w6 ⟨rfl, hb6⟩
           have Hb6 := Lib.hid (Hb5.out.trans (hb6.mono hs5))
           clear hb6)
        | fail)
      go_ret
      exact ⟨rfl, Hb6.out⟩
  · rw [if_neg (by omega)] at H2
    rw [if_pos h1] at H3
    have h1d : decide (c ≤ a) = true := decide_eq_true h1
    have k0 : 0 ≤ k := hk.1
    have k0d : decide (0 ≤ k) = true := decide_eq_true k0
    have k1 : k ≤ a := hk.2
    have k1d : decide (k ≤ a) = true := decide_eq_true k1
    have g0 : ¬ a = c := by omega
    have g0d : decide (a = c) = false := decide_eq_false g0
    have g0b : (a == c) = false := by simp [g0]
    have g00 : ¬ c = a := by omega
    have g00d : decide (c = a) = false := decide_eq_false g00
    have g00b : (c == a) = false := by simp [g00]
    have g1 : c ≤ a + k := by omega
    have g1d : decide (c ≤ a + k) = true := decide_eq_true g1
    have g2 : ¬ a ≤ c + k := by omega
    have g2d : decide (a ≤ c + k) = false := decide_eq_false g2
    have g3 : ¬ a + k < c := by omega
    have g3d : decide (a + k < c) = false := decide_eq_false g3
    have g4 : a ≤ a + k := by omega
    have g4d : decide (a ≤ a + k) = true := decide_eq_true g4
    all_goals
      go_enter Try.func3, Try.ntmps3
      go_upto_region 3 with fail
      obtain ⟨w2, hw2⟩ : ∃ w2 : World, w2 = w.alloc (.cells #[.int .i64 a, .int .i64 b] 24) := ⟨_, rfl⟩
      rw [← hw2]
      have hr2 : w2.heap[w.heap.size]? = some (.cells #[.int .i64 a, .int .i64 b] 24 (0, 0)) := by rw [hw2]; exact heap_alloc_new w _
      have hs2 : w.heap.size < w2.heap.size := by rw [hw2]; simp
      have Hb2 : Hid (Below w.heap.size w w2) := Lib.hid (by rw [hw2]; exact (by repeat' (first | with_reducible exact Below.refl _ _ | with_reducible refine below_drewN ?_ _ | with_reducible refine Below.drew ?_ | with_reducible refine Below.alloc ?_ ?_ _ | with_reducible refine Below.setCell ?_ ?_ _ | with_reducible refine Below.trans ?_ (Below.mono (by with_reducible assumption) ?_) | (simp; done) | (simp; omega) | omega)))
      have Hr2 := Lib.hid hr2
      have c0 := cell_of_row w2 w.heap.size 0 _ _ _ hr2
      have c1 := cell_of_row w2 w.heap.size 1 _ _ _ hr2
      clear hw2 hr2
      go_upto_region 4 with (first
        | (go_at_call 6
           refine (H1.out _).mono ?_
           rintro e w3 ⟨rfl, hb3⟩
           have Hr3 := Lib.hid ((hb3.block _ hs2).trans Hr2.out)
           have hs3 := Nat.lt_of_lt_of_le hs2 hb3.size
           have Hb3 : Hid (Below w.heap.size w w3) := Lib.hid (Hb2.out.trans (hb3.mono Hb2.out.size))
           have d0 := cell_of_row w3 w.heap.size 0 _ _ _ Hr3.out
           have d1 := cell_of_row w3 w.heap.size 1 _ _ _ Hr3.out
           clear hb3 c0 c1)
        | fail)
      go_upto_region 5 with (first
        | (go_at_call 7
           refine (H2.out _).mono ?_
           rintro e w4 ⟨rfl, hb4⟩
           have Hr4 := Lib.hid ((hb4.block _ hs3).trans Hr3.out)
           have hs4 := Nat.lt_of_lt_of_le hs3 hb4.size
           have Hb4 : Hid (Below w.heap.size w w4) := Lib.hid (Hb3.out.trans (hb4.mono Hb3.out.size))
           have e0 := cell_of_row w4 w.heap.size 0 _ _ _ Hr4.out
           have e1 := cell_of_row w4 w.heap.size 1 _ _ _ Hr4.out
           clear hb4 d0 d1)
        | fail)
      go_upto_region 6 with (first
        | (go_at_call 8
           refine (H3.out _).mono ?_
           rintro e w5 ⟨rfl, hb5⟩
           have Hb5 : Hid (Below w.heap.size w w5) := Lib.hid (Hb4.out.trans (hb5.mono Hb4.out.size))
           have hs5 := Hb5.out.size
           clear hb5 e0 e1)
        | fail)
      have v1 : IntKind.i64.wrap (a + k) = a + k := IntWalk.i64_in _ (by omega)
      have v2 : IntKind.i64.wrap (c + k) = c + k := IntWalk.i64_in _ (by omega)
      have v3 : IntKind.i64.wrap (a + k) = a + k := IntWalk.i64_in _ (by omega)
      go_wp2_with (first
        | (go_at_call 9
           refine (awake8_any _).mono ?_
           rintro e w6 ⟨rfl, hb6⟩
           have Hb6 := Lib.hid (Hb5.out.trans (hb6.mono hs5))
           clear hb6)
        | fail)
      go_ret
      exact ⟨rfl, Hb6.out⟩
  · rw [if_pos ⟨h2, by omega⟩] at H2
    rw [if_neg h1, if_neg (by omega)] at H3
    have h1d : decide (c ≤ a) = false := decide_eq_false h1
    have k0 : 0 ≤ k := hk.1
    have k0d : decide (0 ≤ k) = true := decide_eq_true k0
    have k1 : k ≤ a := hk.2
    have k1d : decide (k ≤ a) = true := decide_eq_true k1
    have g1 : c ≤ a + k := by omega
    have g1d : decide (c ≤ a + k) = true := decide_eq_true g1
    have g2 : a ≤ c + k := by omega
    have g2d : decide (a ≤ c + k) = true := decide_eq_true g2
    have g3 : ¬ a + k < c := by omega
    have g3d : decide (a + k < c) = false := decide_eq_false g3
    have g0 : ¬ c = a := by omega
    have g0d : decide (c = a) = false := decide_eq_false g0
    all_goals
      go_enter Try.func3, Try.ntmps3
      go_upto_region 3 with fail
      obtain ⟨w2, hw2⟩ : ∃ w2 : World, w2 = w.alloc (.cells #[.int .i64 a, .int .i64 b] 24) := ⟨_, rfl⟩
      rw [← hw2]
      have hr2 : w2.heap[w.heap.size]? = some (.cells #[.int .i64 a, .int .i64 b] 24 (0, 0)) := by rw [hw2]; exact heap_alloc_new w _
      have hs2 : w.heap.size < w2.heap.size := by rw [hw2]; simp
      have Hb2 : Hid (Below w.heap.size w w2) := Lib.hid (by rw [hw2]; exact (by repeat' (first | with_reducible exact Below.refl _ _ | with_reducible refine below_drewN ?_ _ | with_reducible refine Below.drew ?_ | with_reducible refine Below.alloc ?_ ?_ _ | with_reducible refine Below.setCell ?_ ?_ _ | with_reducible refine Below.trans ?_ (Below.mono (by with_reducible assumption) ?_) | (simp; done) | (simp; omega) | omega)))
      have Hr2 := Lib.hid hr2
      have c0 := cell_of_row w2 w.heap.size 0 _ _ _ hr2
      have c1 := cell_of_row w2 w.heap.size 1 _ _ _ hr2
      clear hw2 hr2
      go_upto_region 4 with (first
        | (go_at_call 6
           refine (H1.out _).mono ?_
           rintro e w3 ⟨rfl, hb3⟩
           have Hr3 := Lib.hid ((hb3.block _ hs2).trans Hr2.out)
           have hs3 := Nat.lt_of_lt_of_le hs2 hb3.size
           have Hb3 : Hid (Below w.heap.size w w3) := Lib.hid (Hb2.out.trans (hb3.mono Hb2.out.size))
           have d0 := cell_of_row w3 w.heap.size 0 _ _ _ Hr3.out
           have d1 := cell_of_row w3 w.heap.size 1 _ _ _ Hr3.out
           clear hb3 c0 c1)
        | fail)
      go_upto_region 5 with (first
        | (go_at_call 7
           refine (H2.out _).mono ?_
           rintro e w4 ⟨rfl, hb4⟩
           have Hr4 := Lib.hid ((hb4.block _ hs3).trans Hr3.out)
           have hs4 := Nat.lt_of_lt_of_le hs3 hb4.size
           have Hb4 : Hid (Below w.heap.size w w4) := Lib.hid (Hb3.out.trans (hb4.mono Hb3.out.size))
           have e0 := cell_of_row w4 w.heap.size 0 _ _ _ Hr4.out
           have e1 := cell_of_row w4 w.heap.size 1 _ _ _ Hr4.out
           clear hb4 d0 d1)
        | fail)
      go_upto_region 6 with (first
        | (go_at_call 8
           refine (H3.out _).mono ?_
           rintro e w5 ⟨rfl, hb5⟩
           have Hb5 : Hid (Below w.heap.size w w5) := Lib.hid (Hb4.out.trans (hb5.mono Hb4.out.size))
           have hs5 := Hb5.out.size
           clear hb5 e0 e1)
        | fail)
      have v1 : IntKind.i64.wrap (a + k) = a + k := IntWalk.i64_in _ (by omega)
      have v2 : IntKind.i64.wrap (c + k) = c + k := IntWalk.i64_in _ (by omega)
      have v3 : IntKind.i64.wrap (a + k) = a + k := IntWalk.i64_in _ (by omega)
      go_wp2_with (first
        | (go_at_call 9
           refine (awake8_any _).mono ?_
           rintro e w6 ⟨rfl, hb6⟩
           have Hb6 := Lib.hid (Hb5.out.trans (hb6.mono hs5))
           clear hb6)
        | fail)
      go_ret
      exact ⟨rfl, Hb6.out⟩
  · rw [if_neg (by omega)] at H2
    rw [if_neg h1, if_pos (by omega)] at H3
    have h1d : decide (c ≤ a) = false := decide_eq_false h1
    have k0 : 0 ≤ k := hk.1
    have k0d : decide (0 ≤ k) = true := decide_eq_true k0
    have k1 : k ≤ a := hk.2
    have k1d : decide (k ≤ a) = true := decide_eq_true k1
    have g0 : ¬ a = c := by omega
    have g0d : decide (a = c) = false := decide_eq_false g0
    have g0b : (a == c) = false := by simp [g0]
    have g00 : ¬ c = a := by omega
    have g00d : decide (c = a) = false := decide_eq_false g00
    have g00b : (c == a) = false := by simp [g00]
    have g1 : ¬ c ≤ a + k := by omega
    have g1d : decide (c ≤ a + k) = false := decide_eq_false g1
    have g2 : a ≤ c + k := by omega
    have g2d : decide (a ≤ c + k) = true := decide_eq_true g2
    have g3 : a + k < c := by omega
    have g3d : decide (a + k < c) = true := decide_eq_true g3
    have g4 : a ≤ a + k := by omega
    have g4d : decide (a ≤ a + k) = true := decide_eq_true g4
    all_goals
      go_enter Try.func3, Try.ntmps3
      go_upto_region 3 with fail
      obtain ⟨w2, hw2⟩ : ∃ w2 : World, w2 = w.alloc (.cells #[.int .i64 a, .int .i64 b] 24) := ⟨_, rfl⟩
      rw [← hw2]
      have hr2 : w2.heap[w.heap.size]? = some (.cells #[.int .i64 a, .int .i64 b] 24 (0, 0)) := by rw [hw2]; exact heap_alloc_new w _
      have hs2 : w.heap.size < w2.heap.size := by rw [hw2]; simp
      have Hb2 : Hid (Below w.heap.size w w2) := Lib.hid (by rw [hw2]; exact (by repeat' (first | with_reducible exact Below.refl _ _ | with_reducible refine below_drewN ?_ _ | with_reducible refine Below.drew ?_ | with_reducible refine Below.alloc ?_ ?_ _ | with_reducible refine Below.setCell ?_ ?_ _ | with_reducible refine Below.trans ?_ (Below.mono (by with_reducible assumption) ?_) | (simp; done) | (simp; omega) | omega)))
      have Hr2 := Lib.hid hr2
      have c0 := cell_of_row w2 w.heap.size 0 _ _ _ hr2
      have c1 := cell_of_row w2 w.heap.size 1 _ _ _ hr2
      clear hw2 hr2
      go_upto_region 4 with (first
        | (go_at_call 6
           refine (H1.out _).mono ?_
           rintro e w3 ⟨rfl, hb3⟩
           have Hr3 := Lib.hid ((hb3.block _ hs2).trans Hr2.out)
           have hs3 := Nat.lt_of_lt_of_le hs2 hb3.size
           have Hb3 : Hid (Below w.heap.size w w3) := Lib.hid (Hb2.out.trans (hb3.mono Hb2.out.size))
           have d0 := cell_of_row w3 w.heap.size 0 _ _ _ Hr3.out
           have d1 := cell_of_row w3 w.heap.size 1 _ _ _ Hr3.out
           clear hb3 c0 c1)
        | fail)
      go_upto_region 5 with (first
        | (go_at_call 7
           refine (H2.out _).mono ?_
           rintro e w4 ⟨rfl, hb4⟩
           have Hr4 := Lib.hid ((hb4.block _ hs3).trans Hr3.out)
           have hs4 := Nat.lt_of_lt_of_le hs3 hb4.size
           have Hb4 : Hid (Below w.heap.size w w4) := Lib.hid (Hb3.out.trans (hb4.mono Hb3.out.size))
           have e0 := cell_of_row w4 w.heap.size 0 _ _ _ Hr4.out
           have e1 := cell_of_row w4 w.heap.size 1 _ _ _ Hr4.out
           clear hb4 d0 d1)
        | fail)
      go_upto_region 6 with (first
        | (go_at_call 8
           refine (H3.out _).mono ?_
           rintro e w5 ⟨rfl, hb5⟩
           have Hb5 : Hid (Below w.heap.size w w5) := Lib.hid (Hb4.out.trans (hb5.mono Hb4.out.size))
           have hs5 := Hb5.out.size
           clear hb5 e0 e1)
        | fail)
      have v1 : IntKind.i64.wrap (a + k) = a + k := IntWalk.i64_in _ (by omega)
      have v2 : IntKind.i64.wrap (c + k) = c + k := IntWalk.i64_in _ (by omega)
      have v3 : IntKind.i64.wrap (a + k) = a + k := IntWalk.i64_in _ (by omega)
      go_wp2_with (first
        | (go_at_call 9
           refine (awake8_any _).mono ?_
           rintro e w6 ⟨rfl, hb6⟩
           have Hb6 := Lib.hid (Hb5.out.trans (hb6.mono hs5))
           clear hb6)
        | fail)
      go_ret
      exact ⟨rfl, Hb6.out⟩
end Go.Proofs.Yteehihmjbibebaa
