/- Contract: the sanity check of the law's package returns true. -/
import Derived.Test.YtepcelekjjalfaaIe
namespace Go.Proofs.Ytepcelekjjalfaa
open Go.RowKit
set_option linter.unusedVariables false

theorem aw1 : lineV 100 90 0 1 80 40 100 = (90, 1) := by decide
theorem aw2 : checkF 100 90 0 1 80 40 100 = 0 := by decide
/-- The two facts of the example. -/
def awL : List Fct := [⟨100, 90, 0, 1, 80, 40⟩, ⟨100, 90, 0, 1, 80, 40⟩]
theorem aw3 : sumDV awL 0 = 200 ∧ sumNV awL 0 = 160 ∧ sumRV awL 0 = [6, 6] ∧ sumE awL 0 = 0 := by decide
theorem aw4 : sameL [6, 6] [6, 6] = true := by decide
set_option maxHeartbeats 400000 in
theorem awake28_any (w : World) : Calls Try.prog 8 #[] w fun e w' => e = .returned (.bool true) ∧ Below w.heap.size w w' := by
  have h1 := Lib.hid (lineT_any 100 90 0 1 80 40 100)
  have h2 := Lib.hid (checkF_any 100 90 0 1 80 40 100)
  rw [aw2] at h2
  rw [aw1, aw2] at h1
  have h3 : Hid (∀ (W : World) (A : Option Addr), Lies W A 2 (factCells awL) → Calls Try.prog 17 #[.slice A 2 2, .int .i64 0] W fun e w' => ∃ A' c', e = .returned (.tuple #[.int .i64 200, .int .i64 160, .slice A' 2 c', .int .i64 0]) ∧ Lies w' A' 2 [.int .i64 6, .int .i64 6] ∧ Below W.heap.size W w') := by
    intro W A hA
    refine (sumT_any A 2 2 0 W awL rfl (by unfold maxLen; omega) hA).mono ?_
    rintro e w' ⟨v, rfl, hown, hb⟩
    rw [aw3.1, aw3.2.1, aw3.2.2.1, aw3.2.2.2] at *
    obtain ⟨A', c', rfl, hl, _, _⟩ := own_slice hown
    exact ⟨A', c', rfl, hl, hb⟩
  go_enter Try.func8, Try.ntmps8
  go_wp2_with (first
    | (go_at_call 13; refine (h1.out _).mono ?_; rintro e w1 ⟨rfl, hb1⟩; obtain ⟨hc1, hf1⟩ := bcell hb1; have hl1 : w.heap.size < w1.heap.size := (by have := hb1.size; (try simp at this); omega))
    | (go_at_call 17; refine (h3.out _ _ (Lies.new _ _ _ _ _ rfl _ (by simp))).mono ?_; rintro e w2 ⟨A', c', rfl, hl, hb2⟩; obtain ⟨hc2, hf2⟩ := bcell hb2; have hl2 : w.heap.size < w2.heap.size := (by have := hb2.size; (try simp at this); omega))
    | (go_at_call 15; refine (h2.out _).mono ?_; rintro e w3 ⟨rfl, hb3⟩; obtain ⟨hc3, hf3⟩ := bcell hb3; have hl3 : w.heap.size < w3.heap.size := (by have := hb3.size; (try simp at this); omega))
    | (go_at_call 19; refine (ints_any _ _ 2 2 _ _ [6, 6] [6, 6] _ rfl rfl (by decide) (by decide) ((hl.below hb3).alloc _) (Lies.new _ _ _ _ _ rfl _ (by simp))).mono ?_; rintro e w4 ⟨rfl, hb4⟩; rw [aw4]))
  go_ret
  exact ⟨rfl, (by repeat' (first | exact Below.refl _ _ | refine below_drewN ?_ _ | refine Below.drew ?_ | refine Below.alloc ?_ ?_ _ | refine Below.setCell ?_ ?_ _ | refine Below.trans ?_ (Below.mono (by assumption) ?_) | (simp; done) | (simp; omega) | omega))⟩
end Go.Proofs.Ytepcelekjjalfaa
