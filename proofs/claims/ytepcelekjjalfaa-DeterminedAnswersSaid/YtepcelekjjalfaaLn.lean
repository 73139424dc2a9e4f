/- Contracts: the determined area of a line, and the reason. -/
import Derived.Test.YtepcelekjjalfaaLi
import Derived.Deep.AppendLies
import Derived.Deep.DeepFit
namespace Go.Proofs.Ytepcelekjjalfaa
open Go.RowKit
set_option linter.unusedVariables false

/-- One limit: a reason and an area, laid over an area and a reason. -/
def lay (x : Int × Int) (l : Int × Int) : Int × Int := if l.2 < x.1 then (l.2, l.1) else x
/-- The cells of limits. -/
def limCells (L : List (Int × Int)) : List Value := L.flatMap fun p => [.int .i64 p.1, .int .i64 p.2]
theorem limCells_at (L : List (Int × Int)) (k : Nat) (h : k < L.length) : (limCells L)[k * 2]? = some (.int .i64 L[k].1) ∧ (limCells L)[k * 2 + 1]? = some (.int .i64 L[k].2) := by
  induction L generalizing k with
  | nil => simp at h
  | cons p r ih =>
    cases k with
    | zero => simp [limCells]
    | succ k =>
      have := ih k (by simpa using h)
      have e1 : (k + 1) * 2 = k * 2 + 1 + 1 := by omega
      rw [e1]
      simpa [limCells] using this
theorem limCells_len (L : List (Int × Int)) : (limCells L).length = L.length * 2 := by
  induction L with
  | nil => rfl
  | cons p r ih => simp [limCells] at ih ⊢; omega
theorem fold_take (L : List (Int × Int)) (x : Int × Int) (k : Nat) (h : k < L.length) : (L.take (k + 1)).foldl lay x = lay ((L.take k).foldl lay x) L[k] := by
  rw [List.take_succ_eq_append_getElem h, List.foldl_append]; rfl

set_option maxHeartbeats 400000 in
theorem lineT_loop (d u s k a b wd : Int) (w : World) (L : List (Int × Int)) (hL : L.length ≤ 2) (hL0 : 0 < L.length) (hz : checkF d u s k a b wd = 0)
    (hl : ∀ w, Calls Try.prog 23 #[.agg #[.int .i64 d, .int .i64 u, .int .i64 s, .int .i64 k, .int .i64 a, .int .i64 b], .int .i64 wd] w (LimPost w L.length (limCells L))) :
    Calls Try.prog 13 #[.agg #[.int .i64 d, .int .i64 u, .int .i64 s, .int .i64 k, .int .i64 a, .int .i64 b], .int .i64 wd] w fun e w' => e = .returned (.tuple #[.int .i64 (L.foldl lay (d, 0)).1, .int .i64 (L.foldl lay (d, 0)).2, .int .i64 0]) ∧ Below w.heap.size w w' := by
  have hv := Lib.hid (checkF_any d u s k a b wd)
  rw [hz] at hv
  have hl' := Lib.hid hl
  clear hl hz
  go_enter Try.func13, Try.ntmps13
  go_wp2_with (first | (go_at_call 15; refine (hv.out _).mono ?_; rintro e w1 ⟨rfl, hb1⟩; obtain ⟨hc1, hf1⟩ := bcell hb1; have hl1 : w.heap.size < w1.heap.size := (by have := hb1.size; (try simp at this); omega)) | (go_at_call 23; refine (hl'.out _).mono ?_; rintro e w2 ⟨v, rfl, hown, hb2⟩; obtain ⟨hc2, hf2⟩ := bcell hb2; have hl2 : w.heap.size < w2.heap.size := (by have := hb2.size; (try simp at this); omega); go_must (obtain ⟨g, cap, rfl, hg, hlt⟩ := hown.form hL0)))
  have hcell : ∀ (j : Nat) (v : Value), (limCells L)[j]? = some v → w2.cell? ⟨g, j, none⟩ = some v := by
    intro j v hj
    have hj' : j < L.length * 2 := by
      rcases Nat.lt_or_ge j (limCells L).length with h | h
      · rw [limCells_len] at h; exact h
      · rw [List.getElem?_eq_none h] at hj; cases hj
    rw [hown.cellAt j hj', hj]
  have hcells := Lib.hid hcell
  clear hcell hown hg
  go_loopw [10, 11, 33] (fun x y i wr => ∃ k : Nat, k ≤ L.length ∧ i = .int .i64 k ∧ x = .int .i64 ((L.take k).foldl lay (d, 0)).1 ∧ y = .int .i64 ((L.take k).foldl lay (d, 0)).2 ∧ Below w2.heap.size w2 wr) (fun _ _ i _ => L.length - (intOf i).toNat)
  case atStart => exact ⟨0, Nat.zero_le _, rfl, rfl, rfl, Below.refl _ _⟩
  case round =>
    obtain ⟨n, hn, rfl, rfl, rfl, hbr⟩ := hrel
    by_cases hlt' : n < L.length
    · have hft := Lib.hid (fold_take L (d, 0) n hlt')
      generalize hx : (L.take n).foldl lay (d, 0) = x at *
      have Hx := Lib.hid hx
      clear hx
      obtain ⟨h0, h1⟩ := limCells_at L n hlt'
      have c0 := (hbr.cell (p := ⟨g, n * 2, none⟩) hlt).trans (hcells.out _ _ h0)
      have c1 := (hbr.cell (p := ⟨g, n * 2 + 1, none⟩) hlt).trans (hcells.out _ _ h1)
      have hgr : g < wr.heap.size := Nat.lt_of_lt_of_le hlt hbr.size
      have hsr := hbr.size
      generalize L[n] = l at *
      clear h0 h1
      by_cases ht : l.2 < x.1
      · have hr : lay x l = (l.2, l.1) := by unfold lay; rw [if_pos ht]
        rw [hr] at hft
        clear hr
        go_wp2
        go_quiet (fail)
        go_wp2
        go_roundw
        case rel => exact ⟨n + 1, by omega, by go_num, by rw [hft.out], by rw [hft.out], (by repeat' (first | exact Below.refl _ _ | refine below_drewN ?_ _ | refine Below.drew ?_ | refine Below.alloc ?_ ?_ _ | refine Below.setCell ?_ ?_ _ | refine Below.trans ?_ (Below.mono (by assumption) ?_) | (simp; done) | (simp; omega) | omega))⟩
        case measure => simp [intOf]; omega
      · have hr : lay x l = x := by unfold lay; rw [if_neg ht]
        rw [hr] at hft
        clear hr
        go_wp2
        go_roundw
        case rel => exact ⟨n + 1, by omega, by go_num, by rw [hft.out], by rw [hft.out], (by repeat' (first | exact Below.refl _ _ | refine below_drewN ?_ _ | refine Below.drew ?_ | refine Below.alloc ?_ ?_ _ | refine Below.setCell ?_ ?_ _ | refine Below.trans ?_ (Below.mono (by assumption) ?_) | (simp; done) | (simp; omega) | omega))⟩
        case measure => simp [intOf]; omega
    · have hn' : L.take n = L := List.take_of_length_le (by omega)
      rw [hn']
      clear hn'
      go_wp2
      go_ret3
      exact ⟨rfl, (by repeat' (first | exact Below.refl _ _ | refine below_drewN ?_ _ | refine Below.drew ?_ | refine Below.alloc ?_ ?_ _ | refine Below.setCell ?_ ?_ _ | refine Below.trans ?_ (Below.mono (by assumption) ?_) | (simp; done) | (simp; omega) | omega))⟩

/-- Which second reason there is, if any: 0 for none. -/
def secR (s k : Int) : Int := if k = 0 then (if s = -1 then 2 else 0) else 7 - k
/-- To how much the second reason limits. -/
def secN (d a b wd k : Int) : Int := if k = 1 then acceptV d a b wd else 0
/-- The limits of a right fact, in order. -/
def limL (d u s k a b wd : Int) : List (Int × Int) := if secR s k = 0 then [(1, u)] else [(1, u), (secR s k, secN d a b wd k)]
/-- The area that is determined, and the reason why it is not more. -/
def lineV (d u s k a b wd : Int) : Int × Int := if checkF d u s k a b wd = 0 then (limL d u s k a b wd).foldl lay (d, 0) else (0, 0)

theorem checkF_zero (d u s k a b wd : Int) : checkF d u s k a b wd = 0 ↔ (0 ≤ d ∧ d ≤ 268435456) ∧ (0 ≤ u ∧ u ≤ d) ∧ (-1 ≤ s ∧ s ≤ 1) ∧ (0 ≤ k ∧ k ≤ 4) ∧ (if k = 1 then measB a b = true else a = 0 ∧ b = 0) ∧ 0 ≤ wd ∧ wd ≤ 200 := by
  unfold checkF
  by_cases h1 : (inB d 0 268435456 && inB u 0 d && inB s (-1) 1 && seenB k a b) = true
  · rw [if_pos h1]
    simp only [Bool.and_eq_true, inB_iff, seenB] at h1
    by_cases h2 : inB wd 0 200 = true
    · rw [if_pos h2]
      rw [inB_iff] at h2
      refine ⟨fun _ => ⟨h1.1.1.1, h1.1.1.2, h1.1.2, h1.2.1, ?_, h2⟩, fun _ => rfl⟩
      by_cases hk : k = 1
      · simpa [hk] using h1.2.2
      · simpa [hk] using h1.2.2
    · rw [if_neg h2]
      rw [inB_iff] at h2
      exact ⟨fun h => by omega, fun h => absurd h.2.2.2.2.2 h2⟩
  · rw [if_neg h1]
    refine ⟨fun h => by omega, fun h => absurd ?_ h1⟩
    simp only [Bool.and_eq_true, inB_iff, seenB]
    refine ⟨⟨⟨h.1, h.2.1⟩, h.2.2.1⟩, h.2.2.2.1, ?_⟩
    have h5 := h.2.2.2.2.1
    by_cases hk : k = 1
    · simpa [hk] using h5
    · simpa [hk] using h5

theorem limits_any (d u s k a b wd : Int) (hz : checkF d u s k a b wd = 0) (w : World) :
    Calls Try.prog 23 #[.agg #[.int .i64 d, .int .i64 u, .int .i64 s, .int .i64 k, .int .i64 a, .int .i64 b], .int .i64 wd] w (LimPost w (limL d u s k a b wd).length (limCells (limL d u s k a b wd))) := by
  obtain ⟨h1, h2, h3, h4, h5, h6⟩ := (checkF_zero d u s k a b wd).1 hz
  unfold limL secR secN
  by_cases k0 : k = 0
  · subst k0
    by_cases s0 : s = -1
    · subst s0
      exact limits_two d u (-1) 0 a b wd 2 w (.inl ⟨rfl, rfl, rfl⟩)
    · simp only [s0, if_false, if_true]
      exact limits_one d u s a b wd w (by simpa using s0)
  · by_cases k1 : k = 1
    · subst k1
      have hc : checkT d a b wd = 0 := (checkT_zero d a b wd).2 ⟨by simpa using h5, h6.1, h6.2, h1.1, h1.2⟩
      exact limits_area d u s a b wd w hc
    · simp only [k0, k1, if_false]
      rw [if_neg (by omega)]
      exact limits_two d u s k a b wd (7 - k) w (.inr (by omega))

set_option maxHeartbeats 400000 in
theorem lineT_any (d u s k a b wd : Int) (w : World) :
    Calls Try.prog 13 #[.agg #[.int .i64 d, .int .i64 u, .int .i64 s, .int .i64 k, .int .i64 a, .int .i64 b], .int .i64 wd] w fun e w' => e = .returned (.tuple #[.int .i64 (lineV d u s k a b wd).1, .int .i64 (lineV d u s k a b wd).2, .int .i64 (checkF d u s k a b wd)]) ∧ Below w.heap.size w w' := by
  unfold lineV
  by_cases hz : checkF d u s k a b wd = 0
  · rw [if_pos hz, hz]
    refine lineT_loop d u s k a b wd w (limL d u s k a b wd) ?_ ?_ hz (limits_any d u s k a b wd hz)
    · unfold limL; split <;> simp
    · unfold limL; split <;> simp
  · rw [if_neg hz]
    have hv := Lib.hid (checkF_any d u s k a b wd)
    have hz' : (checkF d u s k a b wd != 0) = true := by simp [hz]
    generalize checkF d u s k a b wd = z at *
    go_enter Try.func13, Try.ntmps13
    go_wp2_with ((go_at_call 15; refine (hv.out _).mono ?_; rintro e w1 ⟨rfl, hb1⟩; obtain ⟨hc1, hf1⟩ := bcell hb1; have hl1 : w.heap.size < w1.heap.size := (by have := hb1.size; (try simp at this); omega)))
    go_ret3
    exact ⟨rfl, (by repeat' (first | exact Below.refl _ _ | refine below_drewN ?_ _ | refine Below.drew ?_ | refine Below.alloc ?_ ?_ _ | refine Below.setCell ?_ ?_ _ | refine Below.trans ?_ (Below.mono (by assumption) ?_) | (simp; done) | (simp; omega) | omega))⟩
end Go.Proofs.Ytepcelekjjalfaa
