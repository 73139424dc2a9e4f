/- Contracts: the reference's limit, line and sums. -/
import Derived.Test.YtepcelekjjalfaaSm
import Derived.Test.YtepcelekjjalfaaIe
namespace Go.Proofs.Ytepcelekjjalfaa
open Go.RowKit
set_option linter.unusedVariables false

def limN (d u k a b wd r : Int) : Int := if r = 1 then u else if r = 6 then acceptV d a b wd else 0
def limO (d s k a b wd r : Int) : Bool := if r = 1 then true else if r = 2 then (s == -1 && k == 0) else if r = 6 then (checkT d a b wd == 0 && k == 1) else k == 7 - r

set_option maxHeartbeats 1000000 in
theorem limitR_any (d u s k a b wd r : Int) (w : World) (h1 : 1 ≤ r) (h6 : r ≤ 6) :
    Calls Try.prog 24 #[.agg #[.int .i64 d, .int .i64 u, .int .i64 s, .int .i64 k, .int .i64 a, .int .i64 b], .int .i64 wd, .int .i64 r] w fun e w' => e = .returned (.tuple #[.int .i64 (limN d u k a b wd r), .bool (limO d s k a b wd r)]) ∧ Below w.heap.size w w' := by
  rcases (show r = 1 ∨ r = 2 ∨ r = 3 ∨ r = 4 ∨ r = 5 ∨ r = 6 by omega) with rfl | rfl | rfl | rfl | rfl | rfl
  · rw [show limN d u k a b wd 1 = u from rfl, show limO d s k a b wd 1 = true from rfl]
    go_enter Try.func24, Try.ntmps24
    go_wp2
    go_ret2
    exact ⟨rfl, (by repeat' (first | with_reducible exact Below.refl _ _ | with_reducible refine below_drewN ?_ _ | with_reducible refine Below.drew ?_ | with_reducible refine Below.alloc ?_ ?_ _ | with_reducible refine Below.setCell ?_ ?_ _ | with_reducible refine Below.trans ?_ (Below.mono (by with_reducible assumption) ?_) | (simp; done) | (simp; omega) | omega))⟩
  · rw [show limN d u k a b wd 2 = 0 from rfl, show limO d s k a b wd 2 = (s == -1 && k == 0) from rfl]
    by_cases hs : s = -1
    · subst hs
      go_enter Try.func24, Try.ntmps24
      go_wp2
      go_quiet (fail)
      go_wp2
      go_ret2
      exact ⟨by simp, (by repeat' (first | with_reducible exact Below.refl _ _ | with_reducible refine below_drewN ?_ _ | with_reducible refine Below.drew ?_ | with_reducible refine Below.alloc ?_ ?_ _ | with_reducible refine Below.setCell ?_ ?_ _ | with_reducible refine Below.trans ?_ (Below.mono (by with_reducible assumption) ?_) | (simp; done) | (simp; omega) | omega))⟩
    · have hs' : (s == -1) = false := by simpa using hs
      rw [hs']
      go_enter Try.func24, Try.ntmps24
      go_wp2
      go_quiet (fail)
      go_wp2
      go_ret2
      exact ⟨by simp, (by repeat' (first | with_reducible exact Below.refl _ _ | with_reducible refine below_drewN ?_ _ | with_reducible refine Below.drew ?_ | with_reducible refine Below.alloc ?_ ?_ _ | with_reducible refine Below.setCell ?_ ?_ _ | with_reducible refine Below.trans ?_ (Below.mono (by with_reducible assumption) ?_) | (simp; done) | (simp; omega) | omega))⟩
  · rw [show limN d u k a b wd 3 = 0 from rfl, show limO d s k a b wd 3 = (k == 4) from rfl]
    go_enter Try.func24, Try.ntmps24
    go_wp2
    go_quiet (fail)
    go_wp2
    go_ret2
    exact ⟨rfl, (by repeat' (first | with_reducible exact Below.refl _ _ | with_reducible refine below_drewN ?_ _ | with_reducible refine Below.drew ?_ | with_reducible refine Below.alloc ?_ ?_ _ | with_reducible refine Below.setCell ?_ ?_ _ | with_reducible refine Below.trans ?_ (Below.mono (by with_reducible assumption) ?_) | (simp; done) | (simp; omega) | omega))⟩
  · rw [show limN d u k a b wd 4 = 0 from rfl, show limO d s k a b wd 4 = (k == 3) from rfl]
    go_enter Try.func24, Try.ntmps24
    go_wp2
    go_quiet (fail)
    go_wp2
    go_ret2
    exact ⟨rfl, (by repeat' (first | with_reducible exact Below.refl _ _ | with_reducible refine below_drewN ?_ _ | with_reducible refine Below.drew ?_ | with_reducible refine Below.alloc ?_ ?_ _ | with_reducible refine Below.setCell ?_ ?_ _ | with_reducible refine Below.trans ?_ (Below.mono (by with_reducible assumption) ?_) | (simp; done) | (simp; omega) | omega))⟩
  · rw [show limN d u k a b wd 5 = 0 from rfl, show limO d s k a b wd 5 = (k == 2) from rfl]
    go_enter Try.func24, Try.ntmps24
    go_wp2
    go_quiet (fail)
    go_wp2
    go_ret2
    exact ⟨rfl, (by repeat' (first | with_reducible exact Below.refl _ _ | with_reducible refine below_drewN ?_ _ | with_reducible refine Below.drew ?_ | with_reducible refine Below.alloc ?_ ?_ _ | with_reducible refine Below.setCell ?_ ?_ _ | with_reducible refine Below.trans ?_ (Below.mono (by with_reducible assumption) ?_) | (simp; done) | (simp; omega) | omega))⟩
  · rw [show limN d u k a b wd 6 = acceptV d a b wd from rfl, show limO d s k a b wd 6 = (checkT d a b wd == 0 && k == 1) from rfl]
    have hv := Lib.hid (accept08_any d a b wd)
    generalize acceptV d a b wd = v at *
    by_cases hz : checkT d a b wd = 0
    · rw [hz] at hv ⊢
      clear hz
      go_enter Try.func24, Try.ntmps24
      go_wp2_with (go_at_call 29; refine (hv.out _).mono ?_; rintro e w1 ⟨rfl, hb1⟩; obtain ⟨hc1, hf1⟩ := bcell hb1; have hl1 : w.heap.size < w1.heap.size := (by have := hb1.size; (try simp at this); omega))
      go_quiet (fail)
      go_wp2
      go_ret2
      exact ⟨by simp, (by repeat' (first | with_reducible exact Below.refl _ _ | with_reducible refine below_drewN ?_ _ | with_reducible refine Below.drew ?_ | with_reducible refine Below.alloc ?_ ?_ _ | with_reducible refine Below.setCell ?_ ?_ _ | with_reducible refine Below.trans ?_ (Below.mono (by with_reducible assumption) ?_) | (simp; done) | (simp; omega) | omega))⟩
    · have hz' : (checkT d a b wd == 0) = false := by simpa using hz
      clear hz
      generalize checkT d a b wd = z at *
      rw [hz']
      go_enter Try.func24, Try.ntmps24
      go_wp2_with (go_at_call 29; refine (hv.out _).mono ?_; rintro e w1 ⟨rfl, hb1⟩; obtain ⟨hc1, hf1⟩ := bcell hb1; have hl1 : w.heap.size < w1.heap.size := (by have := hb1.size; (try simp at this); omega))
      go_quiet (fail)
      go_wp2
      go_ret2
      exact ⟨by simp, (by repeat' (first | with_reducible exact Below.refl _ _ | with_reducible refine below_drewN ?_ _ | with_reducible refine Below.drew ?_ | with_reducible refine Below.alloc ?_ ?_ _ | with_reducible refine Below.setCell ?_ ?_ _ | with_reducible refine Below.trans ?_ (Below.mono (by with_reducible assumption) ?_) | (simp; done) | (simp; omega) | omega))⟩

/-- The reference's area and reason behind the first j reasons. -/
def refSt (d u s k a b wd : Int) : Nat → Int × Int
  | 0 => (d, 0)
  | j + 1 => if (limO d s k a b wd (j + 1) && decide (limN d u k a b wd (j + 1) < (refSt d u s k a b wd j).1)) = true then (limN d u k a b wd (j + 1), (j : Int) + 1) else refSt d u s k a b wd j

theorem refSt_eq (d u s k a b wd : Int) (h : checkF d u s k a b wd = 0) : refSt d u s k a b wd 6 = lineV d u s k a b wd := by
  obtain ⟨h1, h2, h3, h4, h5, h6⟩ := (checkF_zero _ _ _ _ _ _ _).1 h
  unfold lineV
  rw [if_pos h]
  unfold limL secR secN
  rcases (show k = 0 ∨ k = 1 ∨ k = 2 ∨ k = 3 ∨ k = 4 by omega) with rfl | rfl | rfl | rfl | rfl
  · by_cases hs : s = -1
    · subst hs
      simp [refSt, limO, limN, lay]
    · simp [refSt, limO, limN, lay, hs]
  · have hT : checkT d a b wd = 0 := (checkT_zero d a b wd).2 ⟨by simpa using h5, h6.1, h6.2, h1.1, h1.2⟩
    simp [refSt, limO, limN, lay, hT]
  · simp [refSt, limO, limN, lay]
  · simp [refSt, limO, limN, lay]
  · simp [refSt, limO, limN, lay]

set_option maxHeartbeats 1000000 in
theorem lineR_any (d u s k a b wd : Int) (w : World) :
    Calls Try.prog 14 #[.agg #[.int .i64 d, .int .i64 u, .int .i64 s, .int .i64 k, .int .i64 a, .int .i64 b], .int .i64 wd] w fun e w' => e = .returned (.tuple #[.int .i64 (lineV d u s k a b wd).1, .int .i64 (lineV d u s k a b wd).2, .int .i64 (checkF d u s k a b wd)]) ∧ Below w.heap.size w w' := by
  have hv := Lib.hid (checkR_any d u s k a b wd)
  by_cases hz : checkF d u s k a b wd = 0
  · have Hend := Lib.hid (refSt_eq d u s k a b wd hz)
    rw [hz] at hv ⊢
    clear hz
    generalize lineV d u s k a b wd = fin at *
    have Hl : Hid (∀ (r : Int) W, 1 ≤ r → r ≤ 6 → Calls Try.prog 24 #[.agg #[.int .i64 d, .int .i64 u, .int .i64 s, .int .i64 k, .int .i64 a, .int .i64 b], .int .i64 wd, .int .i64 r] W fun e w' => e = .returned (.tuple #[.int .i64 (limN d u k a b wd r), .bool (limO d s k a b wd r)]) ∧ Below W.heap.size W w') := fun r W h1 h2 => limitR_any d u s k a b wd r W h1 h2
    go_enter Try.func14, Try.ntmps14
    go_wp2_with (go_at_call 16; refine (hv.out _).mono ?_; rintro e w1 ⟨rfl, hb1⟩; obtain ⟨hc1, hf1⟩ := bcell hb1; have hl1 : w.heap.size < w1.heap.size := (by have := hb1.size; (try simp at this); omega))
    go_loopw [8, 9, 10] (fun x y i wr => ∃ j : Nat, j ≤ 6 ∧ i = .int .i64 ((j : Int) + 1) ∧ x = .int .i64 (refSt d u s k a b wd j).1 ∧ y = .int .i64 (refSt d u s k a b wd j).2 ∧ Below w1.heap.size w1 wr) (fun _ _ i _ => (7 - intOf i).toNat)
    case atStart => exact ⟨0, by omega, by go_num, rfl, rfl, Below.refl _ _⟩
    case round =>
      obtain ⟨j, hj, rfl, rfl, rfl, hbr⟩ := hrel
      have hsr := hbr.size
      obtain ⟨hcr, hfr⟩ := bcell hbr
      by_cases hj6 : j < 6
      · have Hst : Hid (refSt d u s k a b wd (j + 1) = if (limO d s k a b wd (j + 1) && decide (limN d u k a b wd (j + 1) < (refSt d u s k a b wd j).1)) = true then (limN d u k a b wd (j + 1), (j : Int) + 1) else refSt d u s k a b wd j) := rfl
        have Hl1 := Lib.hid (Hl.out ((j : Int) + 1))
        generalize limO d s k a b wd ((j : Int) + 1) = o at *
        generalize limN d u k a b wd ((j : Int) + 1) = v at *
        generalize refSt d u s k a b wd j = st at *
        by_cases ho : (o && decide (v < st.1)) = true
        · rw [if_pos ho] at Hst
          obtain ⟨ho1, ho2⟩ := Bool.and_eq_true_iff.1 ho
          have ho2' : v < st.1 := by simpa using ho2
          subst ho1
          clear ho ho2
          go_wp2_with (go_at_call 24; refine (Hl1.out _ (by omega) (by omega)).mono ?_; rintro e w2 ⟨rfl, hb2⟩)
          go_roundw
          case rel => exact ⟨j + 1, by omega, by go_num, by rw [Hst.out], by rw [Hst.out], (by repeat' (first | with_reducible exact Below.refl _ _ | with_reducible refine below_drewN ?_ _ | with_reducible refine Below.drew ?_ | with_reducible refine Below.alloc ?_ ?_ _ | with_reducible refine Below.setCell ?_ ?_ _ | with_reducible refine Below.trans ?_ (Below.mono (by with_reducible assumption) ?_) | (simp; done) | (simp; omega) | omega))⟩
          case measure => simp [intOf]; omega
        · rw [if_neg ho] at Hst
          cases o
          · go_wp2_with (go_at_call 24; refine (Hl1.out _ (by omega) (by omega)).mono ?_; rintro e w2 ⟨rfl, hb2⟩)
            go_roundw
            case rel => exact ⟨j + 1, by omega, by go_num, by rw [Hst.out], by rw [Hst.out], (by repeat' (first | with_reducible exact Below.refl _ _ | with_reducible refine below_drewN ?_ _ | with_reducible refine Below.drew ?_ | with_reducible refine Below.alloc ?_ ?_ _ | with_reducible refine Below.setCell ?_ ?_ _ | with_reducible refine Below.trans ?_ (Below.mono (by with_reducible assumption) ?_) | (simp; done) | (simp; omega) | omega))⟩
            case measure => simp [intOf]; omega
          · have ho2 : st.1 ≤ v := by simpa using ho
            clear ho
            go_wp2_with (go_at_call 24; refine (Hl1.out _ (by omega) (by omega)).mono ?_; rintro e w2 ⟨rfl, hb2⟩)
            go_roundw
            case rel => exact ⟨j + 1, by omega, by go_num, by rw [Hst.out], by rw [Hst.out], (by repeat' (first | with_reducible exact Below.refl _ _ | with_reducible refine below_drewN ?_ _ | with_reducible refine Below.drew ?_ | with_reducible refine Below.alloc ?_ ?_ _ | with_reducible refine Below.setCell ?_ ?_ _ | with_reducible refine Below.trans ?_ (Below.mono (by with_reducible assumption) ?_) | (simp; done) | (simp; omega) | omega))⟩
            case measure => simp [intOf]; omega
      · have hj7 : j = 6 := by omega
        subst hj7
        rw [Hend.out]
        go_wp2
        go_ret3
        exact ⟨rfl, (by repeat' (first | with_reducible exact Below.refl _ _ | with_reducible refine below_drewN ?_ _ | with_reducible refine Below.drew ?_ | with_reducible refine Below.alloc ?_ ?_ _ | with_reducible refine Below.setCell ?_ ?_ _ | with_reducible refine Below.trans ?_ (Below.mono (by with_reducible assumption) ?_) | (simp; done) | (simp; omega) | omega))⟩
  · have hv0 : lineV d u s k a b wd = (0, 0) := by unfold lineV; rw [if_neg hz]
    rw [hv0]
    have hz' : (checkF d u s k a b wd != 0) = true := by simp [hz]
    generalize checkF d u s k a b wd = z at *
    go_enter Try.func14, Try.ntmps14
    go_wp2_with ((go_at_call 16; refine (hv.out _).mono ?_; rintro e w1 ⟨rfl, hb1⟩; obtain ⟨hc1, hf1⟩ := bcell hb1; have hl1 : w.heap.size < w1.heap.size := (by have := hb1.size; (try simp at this); omega)))
    go_ret3
    exact ⟨rfl, (by repeat' (first | with_reducible exact Below.refl _ _ | with_reducible refine below_drewN ?_ _ | with_reducible refine Below.drew ?_ | with_reducible refine Below.alloc ?_ ?_ _ | with_reducible refine Below.setCell ?_ ?_ _ | with_reducible refine Below.trans ?_ (Below.mono (by with_reducible assumption) ?_) | (simp; done) | (simp; omega) | omega))⟩
end Go.Proofs.Ytepcelekjjalfaa
