/- Contracts: which fact is right. -/
import Derived.Test.YtepcelekjjalfaaMs
namespace Go.Proofs.Ytepcelekjjalfaa
open Go.RowKit
set_option linter.unusedVariables false

/-- Whether what was seen is right. -/
def seenB (k a b : Int) : Bool := inB k 0 4 && if k = 1 then measB a b else (a == 0 && b == 0)
/-- The first error of a fact and a width. -/
def checkF (d u s k a b wd : Int) : Int := if (inB d 0 268435456 && inB u 0 d && inB s (-1) 1 && seenB k a b) = true then (if inB wd 0 200 = true then 0 else 2) else 68
theorem inB_iff (n lo hi : Int) : inB n lo hi = true ↔ lo ≤ n ∧ n ≤ hi := by simp [inB]
theorem inB_not (n lo hi : Int) : inB n lo hi = false ↔ n < lo ∨ hi < n := by simp [inB]; omega

set_option maxHeartbeats 400000 in
theorem seen_any (k a b : Int) (w : World) :
    Calls Try.prog 26 #[.agg #[.int .i64 k, .int .i64 a, .int .i64 b]] w fun e w' => e = .returned (.bool (seenB k a b)) ∧ Below w.heap.size w w' := by
  go_enter Try.func26, Try.ntmps26
  go_wp2_with (go_at_call 25; refine (in_any _ _ _ _).mono ?_; rintro e w' ⟨rfl, rfl⟩)
  all_goals
    go_ret
    refine ⟨ret_bool ?_, (by repeat' (first | exact Below.refl _ _ | refine below_drewN ?_ _ | refine Below.drew ?_ | refine Below.alloc ?_ ?_ _ | refine Below.setCell ?_ ?_ _ | refine Below.trans ?_ (Below.mono (by assumption) ?_) | (simp; done) | (simp; omega) | omega))⟩
    unfold seenB measB
    first | (simp [*]; done) | (simp_all; done)

set_option maxHeartbeats 400000 in
theorem checkF_any (d u s k a b wd : Int) (w : World) :
    Calls Try.prog 15 #[.agg #[.int .i64 d, .int .i64 u, .int .i64 s, .int .i64 k, .int .i64 a, .int .i64 b], .int .i64 wd] w fun e w' => e = .returned (.int .i64 (checkF d u s k a b wd)) ∧ Below w.heap.size w w' := by
  go_enter Try.func15, Try.ntmps15
  go_wp2_with (first | (go_at_call 25; refine (in_any _ _ _ _).mono ?_; rintro e w' ⟨rfl, rfl⟩) | (go_at_call 26; refine (seen_any _ _ _ _).mono ?_; rintro e w1 ⟨rfl, hb1⟩; obtain ⟨hc1, hf1⟩ := bcell hb1; have hl1 : w.heap.size < w1.heap.size := (by have := hb1.size; (try simp at this); omega)))
  all_goals
    go_ret
    refine ⟨ret_int ?_, (by repeat' (first | exact Below.refl _ _ | refine below_drewN ?_ _ | refine Below.drew ?_ | refine Below.alloc ?_ ?_ _ | refine Below.setCell ?_ ?_ _ | refine Below.trans ?_ (Below.mono (by assumption) ?_) | (simp; done) | (simp; omega) | omega))⟩
    unfold checkF
    (try simp only [Bool.not_eq_eq_eq_not, Bool.not_true, Bool.not_false] at *)
    simp [*]

/-- As checkF, in the reference's own words. -/
theorem checkF_ref (d u s k a b wd : Int) : checkF d u s k a b wd =
    if (decide (d < 0) || decide (268435456 < d) || decide (u < 0) || decide (d < u) || decide (s < -1) || decide (1 < s) || decide (k < 0) || decide (4 < k) || !measB a b || (k != 1 && !(a == 0 && b == 0))) = true then 68
    else if (decide (wd < 0) || decide (200 < wd)) = true then 2 else 0 := by
  unfold checkF
  have e1 : (inB d 0 268435456 && inB u 0 d && inB s (-1) 1 && seenB k a b) = !(decide (d < 0) || decide (268435456 < d) || decide (u < 0) || decide (d < u) || decide (s < -1) || decide (1 < s) || decide (k < 0) || decide (4 < k) || !measB a b || (k != 1 && !(a == 0 && b == 0))) := by
    rw [Bool.eq_iff_iff]
    by_cases hk : k = 1
    · simp [inB, seenB, measB, hk]; try omega
    · simp [inB, seenB, measB, hk]; try omega
  have e2 : inB wd 0 200 = !(decide (wd < 0) || decide (200 < wd)) := by
    rw [Bool.eq_iff_iff]
    simp [inB]; try omega
  rw [e1, e2]
  cases (decide (d < 0) || decide (268435456 < d) || decide (u < 0) || decide (d < u) || decide (s < -1) || decide (1 < s) || decide (k < 0) || decide (4 < k) || !measB a b || (k != 1 && !(a == 0 && b == 0))) <;> cases (decide (wd < 0) || decide (200 < wd)) <;> rfl

theorem measB00 : measB 0 0 = true := by simp [measB, inB]
set_option maxHeartbeats 800000 in
theorem checkR_any (d u s k a b wd : Int) (w : World) :
    Calls Try.prog 16 #[.agg #[.int .i64 d, .int .i64 u, .int .i64 s, .int .i64 k, .int .i64 a, .int .i64 b], .int .i64 wd] w fun e w' => e = .returned (.int .i64 (checkF d u s k a b wd)) ∧ Below w.heap.size w w' := by
  have He := Lib.hid (checkF_ref d u s k a b wd)
  generalize checkF d u s k a b wd = r at *
  go_enter Try.func16, Try.ntmps16
  go_wp2_with ((go_at_call 27; refine (meas27_any _ _ _).mono ?_; rintro e w1 ⟨rfl, hb1⟩; obtain ⟨hc1, hf1⟩ := bcell hb1; have hl1 : w.heap.size < w1.heap.size := (by have := hb1.size; (try simp at this); omega)))
  all_goals
    go_ret
    refine ⟨ret_int ?_, (by repeat' (first | exact Below.refl _ _ | refine below_drewN ?_ _ | refine Below.drew ?_ | refine Below.alloc ?_ ?_ _ | refine Below.setCell ?_ ?_ _ | refine Below.trans ?_ (Below.mono (by assumption) ?_) | (simp; done) | (simp; omega) | omega))⟩
    rw [He.out]
    first | (simp [*, measB00]; done) | (simp [*, measB00]; rw [if_neg (by omega), if_neg (by omega)])
end Go.Proofs.Ytepcelekjjalfaa
