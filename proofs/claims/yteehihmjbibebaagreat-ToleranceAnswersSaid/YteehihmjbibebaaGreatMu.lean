/- Contracts: Decide (tolerance, and its reference). -/
import Derived.Test.YteehihmjbibebaaGreatMt
namespace Go.Proofs.YteehihmjbibebaaGreat
open Go.RowKit
set_option linter.unusedVariables false
set_option linter.unusedSimpArgs false

/-- Whether a claim is right: 1, -1 or 0. -/
def decideV (c a b wd : Int) : Int := if checkT c a b wd = 0 then (if c ≤ a then 1 else if min a ((b * wd + 99) / 100) < c - a then -1 else 0) else 0
set_option maxHeartbeats 400000 in
theorem decideT_any (c a b wd : Int) (w : World) :
    Calls Tryz.prog 12 #[.int .i64 c, .agg #[.int .i64 a, .int .i64 b], .int .i64 wd] w fun e w' => e = .returned (.tuple #[.int .i64 (decideV c a b wd), .int .i64 (checkT c a b wd)]) ∧ Below w.heap.size w w' := by
  have hv := Lib.hid (checkT_any c a b wd)
  have hg := Lib.hid (marginT_any a b wd)
  unfold decideV
  by_cases hz : checkT c a b wd = 0
  · rw [if_pos hz]
    have hz0 := checkT_of c a b wd hz
    unfold marginV at hg
    rw [if_pos hz0, hz0] at hg
    obtain ⟨hm, h1, h2, h3, h4⟩ := (checkT_zero c a b wd).1 hz
    obtain ⟨⟨h5, h6⟩, h7, h8⟩ := (measB_iff a b).1 hm
    obtain ⟨h9, h10⟩ := mul_bd h7 h8 h1 h2
    rw [hz] at hv ⊢
    clear hz hm hz0
    have hr : min a ((b * wd + 99) / 100) ≤ 268435456 ∧ 0 ≤ min a ((b * wd + 99) / 100) := by omega
    generalize min a ((b * wd + 99) / 100) = r at *
    rcases (show c ≤ a ∨ (¬ c ≤ a ∧ r < c - a) ∨ (¬ c ≤ a ∧ ¬ r < c - a) by omega) with hd | ⟨hd, hd'⟩ | ⟨hd, hd'⟩
    all_goals
      go_enter Tryz.func12, Tryz.ntmps12
      go_wp2_with (first | (go_at_call 19; refine (hv.out _).mono ?_; rintro e w1 ⟨rfl, hb1⟩; obtain ⟨hc1, hf1⟩ := bcell hb1; have hl1 : w.heap.size < w1.heap.size := (by have := hb1.size; (try simp at this); omega)) | (go_at_call 8; refine (hg.out _).mono ?_; rintro e w2 ⟨rfl, hb2⟩; obtain ⟨hc2, hf2⟩ := bcell hb2; have hl2 : w.heap.size < w2.heap.size := (by have := hb2.size; (try simp at this); omega)))
      all_goals
        go_ret2
        refine ⟨ret_ints ?_ rfl, (by repeat' (first | with_reducible exact Below.refl _ _ | with_reducible refine below_drewN ?_ _ | with_reducible refine Below.drew ?_ | with_reducible refine Below.alloc ?_ ?_ _ | with_reducible refine Below.setCell ?_ ?_ _ | with_reducible refine Below.trans ?_ (Below.mono (by with_reducible assumption) ?_) | (simp; done) | (simp; omega) | omega))⟩
        first | rfl | (simp [hd]; done) | (rw [if_neg (by omega), if_pos (by omega)]) | (rw [if_neg (by omega), if_neg (by omega)]) | (rw [if_pos (by omega)])
  · rw [if_neg hz]
    have hz' : (checkT c a b wd != 0) = true := by simp [hz]
    generalize checkT c a b wd = z at *
    go_enter Tryz.func12, Tryz.ntmps12
    go_wp2_with (go_at_call 19; refine (hv.out _).mono ?_; rintro e w1 ⟨rfl, hb⟩; obtain ⟨hc, hf⟩ := bcell hb)
    go_ret2
    exact ⟨rfl, (by repeat' (first | with_reducible exact Below.refl _ _ | with_reducible refine below_drewN ?_ _ | with_reducible refine Below.drew ?_ | with_reducible refine Below.alloc ?_ ?_ _ | with_reducible refine Below.setCell ?_ ?_ _ | with_reducible refine Below.trans ?_ (Below.mono (by with_reducible assumption) ?_) | (simp; done) | (simp; omega) | omega))⟩
set_option maxHeartbeats 400000 in
theorem decide08_any (c a b wd : Int) (w : World) :
    Calls Tryz.prog 13 #[.int .i64 c, .agg #[.int .i64 a, .int .i64 b], .int .i64 wd] w fun e w' => e = .returned (.tuple #[.int .i64 (decideV c a b wd), .int .i64 (checkT c a b wd)]) ∧ Below w.heap.size w w' := by
  have hv := Lib.hid (check08_any c a b wd)
  unfold decideV
  by_cases hz : checkT c a b wd = 0
  · rw [if_pos hz]
    have hz0 := checkT_of c a b wd hz
    unfold chk08V at hv
    rw [if_pos hz] at hv
    unfold marginV at hv
    rw [if_pos hz0, hz] at hv
    obtain ⟨hm, h1, h2, h3, h4⟩ := (checkT_zero c a b wd).1 hz
    obtain ⟨⟨h5, h6⟩, h7, h8⟩ := (measB_iff a b).1 hm
    obtain ⟨h9, h10⟩ := mul_bd h7 h8 h1 h2
    rw [hz]
    clear hz hm hz0
    have hr : min a ((b * wd + 99) / 100) ≤ 268435456 ∧ 0 ≤ min a ((b * wd + 99) / 100) := by omega
    generalize min a ((b * wd + 99) / 100) = r at *
    rcases (show c ≤ a ∨ (¬ c ≤ a ∧ a + r < c) ∨ (¬ c ≤ a ∧ ¬ a + r < c) by omega) with hd | ⟨hd, hd'⟩ | ⟨hd, hd'⟩
    all_goals
      go_enter Tryz.func13, Tryz.ntmps13
      go_wp2_with ((go_at_call 22; refine (hv.out _).mono ?_; rintro e w1 ⟨rfl, hb1⟩; obtain ⟨hc1, hf1⟩ := bcell hb1; have hl1 : w.heap.size < w1.heap.size := (by have := hb1.size; (try simp at this); omega)))
      all_goals
        go_ret2
        refine ⟨ret_ints ?_ rfl, (by repeat' (first | with_reducible exact Below.refl _ _ | with_reducible refine below_drewN ?_ _ | with_reducible refine Below.drew ?_ | with_reducible refine Below.alloc ?_ ?_ _ | with_reducible refine Below.setCell ?_ ?_ _ | with_reducible refine Below.trans ?_ (Below.mono (by with_reducible assumption) ?_) | (simp; done) | (simp; omega) | omega))⟩
        first | rfl | (simp [hd]; done) | (rw [if_neg (by omega), if_pos (by omega)]) | (rw [if_neg (by omega), if_neg (by omega)]) | (rw [if_pos (by omega)])
  · rw [if_neg hz]
    unfold chk08V at hv
    rw [if_neg hz] at hv
    have hz' : (checkT c a b wd != 0) = true := by simp [hz]
    generalize checkT c a b wd = z at *
    go_enter Tryz.func13, Tryz.ntmps13
    go_wp2_with ((go_at_call 22; refine (hv.out _).mono ?_; rintro e w1 ⟨rfl, hb1⟩; obtain ⟨hc1, hf1⟩ := bcell hb1; have hl1 : w.heap.size < w1.heap.size := (by have := hb1.size; (try simp at this); omega)))
    go_ret2
    exact ⟨rfl, (by repeat' (first | with_reducible exact Below.refl _ _ | with_reducible refine below_drewN ?_ _ | with_reducible refine Below.drew ?_ | with_reducible refine Below.alloc ?_ ?_ _ | with_reducible refine Below.setCell ?_ ?_ _ | with_reducible refine Below.trans ?_ (Below.mono (by with_reducible assumption) ?_) | (simp; done) | (simp; omega) | omega))⟩
end Go.Proofs.YteehihmjbibebaaGreat
