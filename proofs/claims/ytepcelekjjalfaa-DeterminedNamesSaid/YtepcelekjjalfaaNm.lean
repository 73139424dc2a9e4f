/- The walk of DeterminedNames. -/
import Derived.Test.YtepcelekjjalfaaAw28
namespace Go.Proofs.Ytepcelekjjalfaa
open Go.RowKit
set_option linter.unusedVariables false

theorem chk_names (D u s k a b : Int) (h : 1 ≤ D ∧ D ≤ 500 ∧ 0 ≤ u ∧ u ≤ D ∧ -1 ≤ s ∧ s ≤ 1 ∧ 0 ≤ k ∧ k ≤ 4) (hk : (k = 1 ∧ 0 ≤ a ∧ a ≤ 500 ∧ b = 9) ∨ (k ≠ 1 ∧ a = 0 ∧ b = 0)) : checkF D u s k a b 0 = 0 := by
  rw [checkF_zero]
  refine ⟨by omega, by omega, by omega, by omega, ?_, by omega⟩
  rcases hk with ⟨h1, h2, h3, h4⟩ | ⟨h1, h2, h3⟩
  · rw [if_pos h1, measB_iff]; omega
  · rw [if_neg h1]; exact ⟨h2, h3⟩
theorem line_names (D u s k a b : Int) (h : 1 ≤ D ∧ D ≤ 500 ∧ 0 ≤ u ∧ u ≤ D ∧ -1 ≤ s ∧ s ≤ 1 ∧ 0 ≤ k ∧ k ≤ 4) (hk : (k = 1 ∧ 0 ≤ a ∧ a < D ∧ b = 9 ∧ u = D) ∨ (k ≠ 1 ∧ a = 0 ∧ b = 0)) :
    lineV D u s k a b 0 = if secR s k = 0 then (if u < D then (u, 1) else (D, 0)) else if k = 1 then (a, 6) else if 0 < u then (0, secR s k) else if u < D then (u, 1) else (D, 0) := by
  have hc : checkF D u s k a b 0 = 0 := chk_names D u s k a b h (by omega)
  unfold lineV
  rw [if_pos hc]
  unfold limL
  by_cases hr : secR s k = 0
  · rw [if_pos hr, if_pos hr]
    simp only [List.foldl, lay]
  · rw [if_neg hr, if_neg hr]
    simp only [List.foldl, lay]
    rcases hk with ⟨rfl, h1, h2, rfl, rfl⟩ | ⟨h1, rfl, rfl⟩
    · have hT : checkT u a 9 0 = 0 := (checkT_zero _ _ _ _).2 ⟨(measB_iff _ _).2 (by omega), by omega⟩
      have hn : secN u a 9 0 1 = a := by
        unfold secN acceptV
        rw [if_pos rfl, if_pos hT]
        rw [if_neg (by omega)]
      have hs : secR s 1 = 6 := by unfold secR; simp
      rw [hn, hs, if_pos rfl]
      simp
      omega
    · have hn : secN D 0 0 0 k = 0 := by unfold secN; rw [if_neg h1]
      rw [hn, if_neg h1]
      by_cases hu : u < D
      · rw [if_pos hu]
      · rw [if_neg hu]
        simp
        have : u = D := by omega
        subst this
        rfl

set_option maxHeartbeats 1000000 in
theorem names_any (a0 a1 a2 : Int) (w : World) (h0 : 0 ≤ a0) (h0' : a0 ≤ 255) (h1 : 0 ≤ a1) (h1' : a1 ≤ 65535) (h2 : 0 ≤ a2) (h2' : a2 ≤ 255) :
    Calls Try.prog 7 #[.int .u8 a0, .int .u16 a1, .int .u8 a2] w fun e w' => e = .returned (.bool true) ∧ Below w.heap.size w w' := by
  have hD : 1 ≤ 1 + a1 % 500 ∧ 1 + a1 % 500 ≤ 500 := by omega
  have hm1 : 0 ≤ a2 % (1 + a1 % 500) := Int.emod_nonneg _ (by omega)
  have hm2 : a2 % (1 + a1 % 500) < 1 + a1 % 500 := Int.emod_lt_of_pos _ (by omega)
  rcases (show a0 % 7 = 0 ∨ a0 % 7 = 1 ∨ a0 % 7 = 2 ∨ a0 % 7 = 3 ∨ a0 % 7 = 4 ∨ a0 % 7 = 5 ∨ a0 % 7 = 6 by omega) with hk | hk | hk | hk | hk | hk | hk
  · have hl := Lib.hid (lineT_any (1 + a1 % 500) (1 + a1 % 500) 1 0 0 0 0)
    rw [chk_names _ _ _ _ _ _ (by omega) (by omega), show lineV (1 + a1 % 500) (1 + a1 % 500) 1 0 0 0 0 = ((1 + a1 % 500), 0) by rw [line_names _ _ _ _ _ _ (by omega) (by omega)]; simp [secR]] at hl
    go_enter Try.func7, Try.ntmps7
    go_wp2_with (first | (go_at_call 13; refine (hl.out _).mono ?_; rintro e w1 ⟨rfl, hb1⟩; obtain ⟨hc1, hf1⟩ := bcell hb1; have hl1 : w.heap.size < w1.heap.size := (by have := hb1.size; (try simp at this); omega)) | (go_at_call 8; refine (awake28_any _).mono ?_; rintro e w2 ⟨rfl, hb2⟩))
    go_ret
    exact ⟨rfl, (by repeat' (first | exact Below.refl _ _ | refine below_drewN ?_ _ | refine Below.drew ?_ | refine Below.alloc ?_ ?_ _ | refine Below.setCell ?_ ?_ _ | refine Below.trans ?_ (Below.mono (by assumption) ?_) | (simp; done) | (simp; omega) | omega))⟩
  · have hl := Lib.hid (lineT_any (1 + a1 % 500) (a2 % (1 + a1 % 500)) 1 0 0 0 0)
    rw [chk_names _ _ _ _ _ _ (by omega) (by omega), show lineV (1 + a1 % 500) (a2 % (1 + a1 % 500)) 1 0 0 0 0 = (a2 % (1 + a1 % 500), 1) by rw [line_names _ _ _ _ _ _ (by omega) (by omega)]; rw [show secR 1 0 = 0 from by decide, if_pos rfl, if_pos (by omega)]] at hl
    go_enter Try.func7, Try.ntmps7
    go_wp2_with (first | (go_at_call 13; refine (hl.out _).mono ?_; rintro e w1 ⟨rfl, hb1⟩; obtain ⟨hc1, hf1⟩ := bcell hb1; have hl1 : w.heap.size < w1.heap.size := (by have := hb1.size; (try simp at this); omega)) | (go_at_call 8; refine (awake28_any _).mono ?_; rintro e w2 ⟨rfl, hb2⟩))
    go_quiet (fail)
    go_wp2_with (first | (go_at_call 13; refine (hl.out _).mono ?_; rintro e w1 ⟨rfl, hb1⟩; obtain ⟨hc1, hf1⟩ := bcell hb1; have hl1 : w.heap.size < w1.heap.size := (by have := hb1.size; (try simp at this); omega)) | (go_at_call 8; refine (awake28_any _).mono ?_; rintro e w2 ⟨rfl, hb2⟩))
    go_ret
    exact ⟨rfl, (by repeat' (first | exact Below.refl _ _ | refine below_drewN ?_ _ | refine Below.drew ?_ | refine Below.alloc ?_ ?_ _ | refine Below.setCell ?_ ?_ _ | refine Below.trans ?_ (Below.mono (by assumption) ?_) | (simp; done) | (simp; omega) | omega))⟩
  · have hl := Lib.hid (lineT_any (1 + a1 % 500) (1 + a1 % 500) (-1) 0 0 0 0)
    rw [chk_names _ _ _ _ _ _ (by omega) (by omega), show lineV (1 + a1 % 500) (1 + a1 % 500) (-1) 0 0 0 0 = (0, 2) by rw [line_names _ _ _ _ _ _ (by omega) (by omega)]; rw [show secR (-1) 0 = 2 from by decide, if_neg (by decide), if_neg (by decide), if_pos (by omega)]] at hl
    go_enter Try.func7, Try.ntmps7
    go_wp2_with (first | (go_at_call 13; refine (hl.out _).mono ?_; rintro e w1 ⟨rfl, hb1⟩; obtain ⟨hc1, hf1⟩ := bcell hb1; have hl1 : w.heap.size < w1.heap.size := (by have := hb1.size; (try simp at this); omega)) | (go_at_call 8; refine (awake28_any _).mono ?_; rintro e w2 ⟨rfl, hb2⟩))
    go_ret
    exact ⟨rfl, (by repeat' (first | exact Below.refl _ _ | refine below_drewN ?_ _ | refine Below.drew ?_ | refine Below.alloc ?_ ?_ _ | refine Below.setCell ?_ ?_ _ | refine Below.trans ?_ (Below.mono (by assumption) ?_) | (simp; done) | (simp; omega) | omega))⟩
  · have hl := Lib.hid (lineT_any (1 + a1 % 500) (1 + a1 % 500) 1 4 0 0 0)
    rw [chk_names _ _ _ _ _ _ (by omega) (by omega), show lineV (1 + a1 % 500) (1 + a1 % 500) 1 4 0 0 0 = (0, 3) by rw [line_names _ _ _ _ _ _ (by omega) (by omega)]; rw [show secR 1 4 = 3 from by decide, if_neg (by decide), if_neg (by decide), if_pos (by omega)]] at hl
    go_enter Try.func7, Try.ntmps7
    go_wp2_with (first | (go_at_call 13; refine (hl.out _).mono ?_; rintro e w1 ⟨rfl, hb1⟩; obtain ⟨hc1, hf1⟩ := bcell hb1; have hl1 : w.heap.size < w1.heap.size := (by have := hb1.size; (try simp at this); omega)) | (go_at_call 8; refine (awake28_any _).mono ?_; rintro e w2 ⟨rfl, hb2⟩))
    go_ret
    exact ⟨rfl, (by repeat' (first | exact Below.refl _ _ | refine below_drewN ?_ _ | refine Below.drew ?_ | refine Below.alloc ?_ ?_ _ | refine Below.setCell ?_ ?_ _ | refine Below.trans ?_ (Below.mono (by assumption) ?_) | (simp; done) | (simp; omega) | omega))⟩
  · have hl := Lib.hid (lineT_any (1 + a1 % 500) (1 + a1 % 500) 1 3 0 0 0)
    rw [chk_names _ _ _ _ _ _ (by omega) (by omega), show lineV (1 + a1 % 500) (1 + a1 % 500) 1 3 0 0 0 = (0, 4) by rw [line_names _ _ _ _ _ _ (by omega) (by omega)]; rw [show secR 1 3 = 4 from by decide, if_neg (by decide), if_neg (by decide), if_pos (by omega)]] at hl
    go_enter Try.func7, Try.ntmps7
    go_wp2_with (first | (go_at_call 13; refine (hl.out _).mono ?_; rintro e w1 ⟨rfl, hb1⟩; obtain ⟨hc1, hf1⟩ := bcell hb1; have hl1 : w.heap.size < w1.heap.size := (by have := hb1.size; (try simp at this); omega)) | (go_at_call 8; refine (awake28_any _).mono ?_; rintro e w2 ⟨rfl, hb2⟩))
    go_ret
    exact ⟨rfl, (by repeat' (first | exact Below.refl _ _ | refine below_drewN ?_ _ | refine Below.drew ?_ | refine Below.alloc ?_ ?_ _ | refine Below.setCell ?_ ?_ _ | refine Below.trans ?_ (Below.mono (by assumption) ?_) | (simp; done) | (simp; omega) | omega))⟩
  · have hl := Lib.hid (lineT_any (1 + a1 % 500) (1 + a1 % 500) 1 2 0 0 0)
    rw [chk_names _ _ _ _ _ _ (by omega) (by omega), show lineV (1 + a1 % 500) (1 + a1 % 500) 1 2 0 0 0 = (0, 5) by rw [line_names _ _ _ _ _ _ (by omega) (by omega)]; rw [show secR 1 2 = 5 from by decide, if_neg (by decide), if_neg (by decide), if_pos (by omega)]] at hl
    go_enter Try.func7, Try.ntmps7
    go_wp2_with (first | (go_at_call 13; refine (hl.out _).mono ?_; rintro e w1 ⟨rfl, hb1⟩; obtain ⟨hc1, hf1⟩ := bcell hb1; have hl1 : w.heap.size < w1.heap.size := (by have := hb1.size; (try simp at this); omega)) | (go_at_call 8; refine (awake28_any _).mono ?_; rintro e w2 ⟨rfl, hb2⟩))
    go_ret
    exact ⟨rfl, (by repeat' (first | exact Below.refl _ _ | refine below_drewN ?_ _ | refine Below.drew ?_ | refine Below.alloc ?_ ?_ _ | refine Below.setCell ?_ ?_ _ | refine Below.trans ?_ (Below.mono (by assumption) ?_) | (simp; done) | (simp; omega) | omega))⟩
  · have hl := Lib.hid (lineT_any (1 + a1 % 500) (1 + a1 % 500) 1 1 (a2 % (1 + a1 % 500)) 9 0)
    rw [chk_names _ _ _ _ _ _ (by omega) (by omega), show lineV (1 + a1 % 500) (1 + a1 % 500) 1 1 (a2 % (1 + a1 % 500)) 9 0 = (a2 % (1 + a1 % 500), 6) by rw [line_names _ _ _ _ _ _ (by omega) (by omega)]; rw [show secR 1 1 = 6 from by decide, if_neg (by decide), if_pos rfl]] at hl
    go_enter Try.func7, Try.ntmps7
    go_wp2_with (first | (go_at_call 13; refine (hl.out _).mono ?_; rintro e w1 ⟨rfl, hb1⟩; obtain ⟨hc1, hf1⟩ := bcell hb1; have hl1 : w.heap.size < w1.heap.size := (by have := hb1.size; (try simp at this); omega)) | (go_at_call 8; refine (awake28_any _).mono ?_; rintro e w2 ⟨rfl, hb2⟩))
    go_quiet (fail)
    go_wp2_with (first | (go_at_call 13; refine (hl.out _).mono ?_; rintro e w1 ⟨rfl, hb1⟩; obtain ⟨hc1, hf1⟩ := bcell hb1; have hl1 : w.heap.size < w1.heap.size := (by have := hb1.size; (try simp at this); omega)) | (go_at_call 8; refine (awake28_any _).mono ?_; rintro e w2 ⟨rfl, hb2⟩))
    go_ret
    exact ⟨rfl, (by repeat' (first | exact Below.refl _ _ | refine below_drewN ?_ _ | refine Below.drew ?_ | refine Below.alloc ?_ ?_ _ | refine Below.setCell ?_ ?_ _ | refine Below.trans ?_ (Below.mono (by assumption) ?_) | (simp; done) | (simp; omega) | omega))⟩
end Go.Proofs.Ytepcelekjjalfaa
