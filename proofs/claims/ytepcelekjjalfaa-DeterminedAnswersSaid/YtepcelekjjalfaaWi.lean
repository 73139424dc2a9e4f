/- The walk of DeterminedWithin. -/
import Derived.Test.YtepcelekjjalfaaFa
import Derived.Test.YtepcelekjjalfaaAw28
namespace Go.Proofs.Ytepcelekjjalfaa
open Go.RowKit
set_option linter.unusedVariables false

/-- The call of Line at a right fact. -/
theorem line_right (d u s k a b wd : Int) (h : checkF d u s k a b wd = 0) (W : World) :
    Calls Try.prog 13 #[.agg #[.int .i64 d, .int .i64 u, .int .i64 s, .int .i64 k, .int .i64 a, .int .i64 b], .int .i64 wd] W fun e w' => e = .returned (.tuple #[.int .i64 (lineV d u s k a b wd).1, .int .i64 (lineV d u s k a b wd).2, .int .i64 0]) ∧ Below W.heap.size W w' := by
  have := lineT_any d u s k a b wd W
  rw [h] at this
  exact this

/-- What is determined of a right fact, plainly. -/
theorem line_plain (d u s k a b wd : Int) (h : checkF d u s k a b wd = 0) :
    0 ≤ (lineV d u s k a b wd).1 ∧ (lineV d u s k a b wd).1 ≤ d ∧ (lineV d u s k a b wd).1 ≤ u ∧ ((lineV d u s k a b wd).2 = 0 ↔ (lineV d u s k a b wd).1 = d) ∧
      ((k = 4 ∨ k = 3 ∨ k = 2 ∨ (k = 0 ∧ s = -1)) → (lineV d u s k a b wd).1 = 0) := by
  have hb := lineV_bd d u s k a b wd h
  obtain ⟨h1, h2, h3, h4, h5, h6⟩ := (checkF_zero _ _ _ _ _ _ _).1 h
  refine ⟨hb.1, by omega, hb.2, ?_, ?_⟩
  · unfold lineV
    rw [if_pos h]
    unfold limL
    by_cases hs : secR s k = 0
    · rw [if_pos hs]
      simp only [List.foldl, lay]
      by_cases hu : u < d
      · rw [if_pos hu]; simp; omega
      · rw [if_neg hu]; simp
    · rw [if_neg hs]
      simp only [List.foldl, lay]
      by_cases hu : u < d
      · rw [if_pos hu]
        by_cases hn : secN d a b wd k < u
        · rw [if_pos (by simpa using hn)]; simp [hs]; omega
        · rw [if_neg (by simpa using hn)]; simp; omega
      · rw [if_neg hu]
        by_cases hn : secN d a b wd k < d
        · rw [if_pos (by simpa using hn)]; simp [hs]; omega
        · rw [if_neg (by simpa using hn)]; simp
  · intro hz
    have hs : secR s k ≠ 0 := by
      unfold secR
      by_cases k0 : k = 0
      · rw [if_pos k0, if_pos (by omega)]; decide
      · rw [if_neg k0]; omega
    have hn : secN d a b wd k = 0 := by unfold secN; rw [if_neg (by omega)]
    unfold lineV
    rw [if_pos h]
    unfold limL
    rw [if_neg hs, hn]
    simp only [List.foldl, lay]
    by_cases hu : u < d
    · rw [if_pos hu]
      by_cases h0 : 0 < u
      · rw [if_pos (by simpa using h0)]
      · rw [if_neg (by simpa using h0)]; simp; omega
    · rw [if_neg hu]
      by_cases h0 : 0 < d
      · rw [if_pos (by simpa using h0)]
      · rw [if_neg (by simpa using h0)]; simp; omega

set_option maxHeartbeats 1000000 in
theorem within_any (A : Option Addr) (n c : Nat) (zs : List Int) (wd : Int) (w : World) (hn : zs.length = n) (hc : n ≤ c) (hm : c ≤ maxLen) (hw : ∀ z ∈ zs, (Lit.int .i64 z).wf = true) (hA : Lies w A n (zs.map (.int .i64))) (h0 : 0 ≤ wd) (h1 : wd ≤ 255) :
    Calls Try.prog 4 #[.slice A n c, .int .u8 wd] w fun e w' => e = .returned (.bool true) ∧ Below w.heap.size w w' := by
  have Hnew := Lib.hid (new_any A n c zs w hn hc hm hw hA)
  clear hn hc hm hw hA
  generalize zs.take 400 = r at *
  have hchk := fact_right r (wd % 201) (by omega) (by omega)
  have Hl := Lib.hid (line_right _ _ _ _ _ _ _ hchk)
  have hp := line_plain _ _ _ _ _ _ _ hchk
  have Hf : Hid (∀ g W, TapeAt W g r → Calls Try.prog 10 #[.pointer (some ⟨g, 0, none⟩)] W (TakePost W g (fRest r) (.agg #[.int .i64 (factOf r).d, .int .i64 (factOf r).u, .int .i64 (factOf r).s, .int .i64 (factOf r).k, .int .i64 (factOf r).a, .int .i64 (factOf r).b]))) := fun g W h => fact_any g r W h
  clear hchk
  generalize hq : lineV (factOf r).d (factOf r).u (factOf r).s (factOf r).k (factOf r).a (factOf r).b (wd % 201) = q at *
  clear hq
  generalize (factOf r).d = d at *
  generalize (factOf r).u = u at *
  generalize (factOf r).s = s at *
  generalize (factOf r).k = k at *
  generalize (factOf r).a = a at *
  generalize (factOf r).b = b at *
  generalize fRest r = rest at *
  obtain ⟨p1, p2, p3, p4, p5⟩ := hp
  have hr : (q.2 == 0) = (q.1 == d) := by rw [Bool.eq_iff_iff]; simpa using p4
  have Hz := Lib.hid p5
  clear p4 p5
  go_enter Try.func4, Try.ntmps4
  go_wp2_with fail
  refine Hnew.out.mono ?_
  rintro e w1 ⟨g, rfl, hg, ht, hb1⟩
  have hgl := ht.lt
  go_wp2_with fail
  refine (Hf.out g _ ht).mono ?_
  rintro e w2 ⟨rfl, ht2, hg2⟩
  have hs2 := hg2.size
  go_wp2_with fail
  refine (Hl.out _).mono ?_
  rintro e w3 ⟨rfl, hb3⟩
  obtain ⟨hc3, hf3⟩ := bcell hb3
  have hl3 : w2.heap.size < w3.heap.size := by have := hb3.size; simp at this; omega
  go_wp2_with (go_at_call 8; refine (awake28_any _).mono ?_; rintro e w4 ⟨rfl, hb4⟩)
  all_goals
    go_ret
    first
      | exact ⟨rfl, (by repeat' (first | with_reducible exact Below.refl _ _ | with_reducible assumption | with_reducible refine below_drewN ?_ _ | with_reducible refine Below.drew ?_ | with_reducible refine Below.alloc ?_ ?_ _ | with_reducible refine Below.setCell ?_ ?_ _ | with_reducible refine Below.trans ?_ (Below.mono (by with_reducible assumption) ?_) | with_reducible refine below_only ?_ (by with_reducible assumption) ?_ ?_ | (simp; done) | (simp; omega) | omega))⟩
      | (exfalso; have := Hz.out (by omega); omega)
end Go.Proofs.Ytepcelekjjalfaa
