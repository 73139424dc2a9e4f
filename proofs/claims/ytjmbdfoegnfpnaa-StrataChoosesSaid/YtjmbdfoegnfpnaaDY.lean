/- Plain: the sanity check of draw, as a law. -/
import Derived.Test.YtjmbdfoegnfpnaaDW
import Derived.Test.YtjmbdfoegnfpnaaDX
namespace Go.Proofs.Ytjmbdfoegnfpnaa
open Go.RowKit
set_option linter.unusedVariables false
set_option linter.unusedSimpArgs false

theorem aw_new : newE 1 = (⟨1, [0], [false], [0], [false]⟩, 0) := by decide
theorem aw_commit (s : Int) : commitD ⟨1, [0], [false], [0], [false]⟩ 0 s = (⟨1, [s], [true], [0], [false]⟩, 0) := by
  have h : usableD ⟨1, [0], [false], [0], [false]⟩ 1 = 0 := by decide
  unfold commitD
  rw [h]
  rfl
theorem aw_usable (st s x : Int) (r : Bool) (hst : 1 ≤ st ∧ st ≤ 3) (hr : r = true → st ≠ 1) (hx : r = false → x = 0) : usableD ⟨st, [s], [true], [x], [r]⟩ st = 0 := by
  have hf : formD ⟨st, [s], [true], [x], [r]⟩ = true := by simp [formD]; omega
  have hb : (List.range 1).any (badD ⟨st, [s], [true], [x], [r]⟩) = false := by
    cases r
    · simp [List.range_succ, badD, badAt, hx rfl]
    · simp [List.range_succ, badD, badAt, hr rfl]
  unfold usableD checkD
  simp only [hf, if_true]
  rw [show ([s] : List Int).length = 1 from rfl, hb]
  simp
theorem aw_close (s : Int) : nextD ⟨1, [s], [true], [0], [false]⟩ 1 = (⟨2, [s], [true], [0], [false]⟩, 0) := by
  unfold nextD
  rw [aw_usable 1 s 0 false (by omega) (by simp) (by simp)]
  rfl
theorem aw_reveal (a b : Int) : revealD ⟨2, [sealI 0 a b], [true], [0], [false]⟩ 0 a b = (⟨2, [sealI 0 a b], [true], [a], [true]⟩, 0) := by
  unfold revealD
  rw [aw_usable 2 (sealI 0 a b) 0 false (by omega) (by simp) (by simp)]
  generalize sealI 0 a b = s
  simp [noShow]
theorem aw_finish (s a : Int) : nextD ⟨2, [s], [true], [a], [true]⟩ 2 = (⟨3, [s], [true], [a], [true]⟩, 0) := by
  unfold nextD
  rw [aw_usable 2 s a true (by omega) (by simp) (by simp)]
  rfl
theorem aw_seed (s : Int) : seedP ⟨3, [s], [true], [7], [true]⟩ = (mixI 7, [], 0) := by
  unfold seedP
  rw [aw_usable 3 s 7 true (by omega) (by simp) (by simp)]
  have h : x64 0 7 = 7 := by decide
  simp [h, silentP, List.range_succ]
theorem srt_le (l : List Int) : (srt l).Pairwise (· ≤ ·) := by
  have h := List.pairwise_mergeSort (le := fun x y : Int => decide (x ≤ y)) (fun a b c h1 h2 => by simp at *; omega) (fun a b => by simp; omega) l
  exact h.imp (by intro a b h; simpa using h)
theorem srt_perm_eq {l m : List Int} (h : l.Perm m) (hm : m.Pairwise (· ≤ ·)) : srt l = m :=
  ((List.mergeSort_perm l _).trans h).eq_of_pairwise (le := (· ≤ ·)) (fun a b _ _ h1 h2 => by omega) (srt_le l) hm
theorem aw_sample (s : Int) : sampleP s [5, 3, 8] 3 = ([3, 5, 8], 0) := by
  have h1 : (List.range 3).any (badU [5, 3, 8]) = false := by decide
  have h2 : (tickS s [5, 3, 8]).length = 3 := by unfold tickS; rw [List.length_mergeSort]; rfl
  unfold sampleP
  rw [show ([5, 3, 8] : List Int).length = 3 from rfl, if_neg (by omega), h1, if_neg (by simp), if_neg (by omega), show (3 : Int).toNat = 3 from rfl, List.take_of_length_le (by omega)]
  rw [srt_perm_eq (l := tickS s [5, 3, 8]) (m := [3, 5, 8]) ((List.mergeSort_perm _ _).trans (by decide)) (by decide)]
theorem aw_mix : mixI 0 ≠ mixI 1 := by decide
end Go.Proofs.Ytjmbdfoegnfpnaa
