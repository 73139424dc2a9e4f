/- Plain: samples of ascending units: their order, more of them, one that leaves. -/
import Derived.Test.YtbkkmgofjhaaoaaE4
namespace Go.Proofs.Ytbkkmgofjhaaoaa
open Go.RowKit
set_option linter.unusedVariables false
set_option linter.unusedSimpArgs false

theorem tickS_sorted (s : Int) (l : List Int) : (tickS s l).Pairwise (fun a b => (!beforeT s b a) = true) := List.pairwise_mergeSort (fun a b c h1 h2 => by
    rw [Bool.not_eq_true', beforeT_not] at *; omega) (fun a b => by
    cases h : beforeT s b a
    · simp
    · rw [beforeT_iff] at h
      have : beforeT s a b = false := by rw [beforeT_not]; omega
      simp [this]) l
theorem tick_eq_of (s : Int) {l m : List Int} (h : l.Perm m) (hl : l.Pairwise (fun a b => (!beforeT s b a) = true)) (hm : m.Pairwise (fun a b => (!beforeT s b a) = true)) : l = m :=
  h.eq_of_pairwise (le := fun a b => (!beforeT s b a) = true) (fun a b _ _ h1 h2 => by
    rw [Bool.not_eq_true', beforeT_not] at h1 h2
    omega) hl hm
theorem tickS_of_perm (s : Int) {l m : List Int} (h : l.Perm m) : tickS s l = tickS s m :=
  tick_eq_of s ((List.mergeSort_perm l _).trans (h.trans (List.mergeSort_perm m _).symm)) (tickS_sorted s l) (tickS_sorted s m)
theorem tickS_filter (s : Int) (l : List Int) (p : Int → Bool) : tickS s (l.filter p) = (tickS s l).filter p :=
  tick_eq_of s ((List.mergeSort_perm _ _).trans ((List.mergeSort_perm l _).symm.filter p)) (tickS_sorted s _) ((tickS_sorted s l).sublist List.filter_sublist)
theorem take_filter {t : List Int} {n : Nat} {p : Int → Bool} (hn : n ≤ t.length) (h : ∀ u ∈ t.take n, p u = true) : (t.filter p).take n = t.take n := by
  have e : t.filter p = t.take n ++ (t.drop n).filter p := by
    conv => lhs; rw [← List.take_append_drop n t]
    rw [List.filter_append, List.filter_eq_self.2 h]
  rw [e, List.take_append_of_le_length (by rw [List.length_take]; omega), List.take_take, Nat.min_self]
theorem badU_none {l : List Int} (h1 : l.Nodup) (h2 : ∀ u ∈ l, 0 ≤ u) : (List.range l.length).any (badU l) = false := by
  rw [List.any_eq_false]
  intro i hi
  have hi' : i < l.length := by simpa using hi
  have e1 : l.getD i 0 = l[i] := by simp [List.getD_eq_getElem?_getD, hi']
  unfold badU
  rw [e1]
  have h0 := h2 _ (List.getElem_mem hi')
  have hm : l[i] ∉ l.take i := by
    intro hm
    rw [List.mem_take_iff_getElem] at hm
    obtain ⟨j, hj, e⟩ := hm
    rw [List.Nodup, List.pairwise_iff_getElem] at h1
    exact h1 j i (by omega) hi' (by omega) e
  simp [hm]
  omega
theorem sampleP_ok {s : Int} {l : List Int} {k : Nat} (h1 : l.Nodup) (h2 : ∀ u ∈ l, 0 ≤ u) (h3 : l.length ≤ 60) (hk : k ≤ l.length) : sampleP s l (k : Int) = (srt ((tickS s l).take k), 0) := by
  unfold sampleP
  rw [if_neg (by omega), badU_none h1 h2, if_neg (by simp), if_neg (by omega)]
  rfl
theorem tickS_len (s : Int) (l : List Int) : (tickS s l).length = l.length := (List.mergeSort_perm l _).length_eq
theorem mem_srt {l : List Int} {u : Int} : u ∈ srt l ↔ u ∈ l := (List.mergeSort_perm l _).mem_iff
theorem mem_tickS {s : Int} {l : List Int} {u : Int} : u ∈ tickS s l ↔ u ∈ l := (List.mergeSort_perm l _).mem_iff
/-- Ascending units. -/
structure Asc (l : List Int) : Prop where
  up : l.Pairwise (· < ·)
  pos : ∀ u ∈ l, 0 ≤ u
theorem Asc.nodup {l : List Int} (h : Asc l) : l.Nodup := h.up.imp (fun h => by omega)
theorem Asc.nil : Asc [] := ⟨List.Pairwise.nil, fun u h => by cases h⟩
theorem Asc.snoc {l : List Int} (h : Asc l) (x : Int) (hx : 0 ≤ x) (hm : ∀ u ∈ l, u < x) : Asc (l ++ [x]) := by
  refine ⟨?_, fun u hu => ?_⟩
  · rw [List.pairwise_append]
    exact ⟨h.up, List.pairwise_singleton _ _, fun a ha b hb => by rw [List.mem_singleton] at hb; subst hb; exact hm a ha⟩
  · rw [List.mem_append, List.mem_singleton] at hu
    rcases hu with hu | rfl
    · exact h.pos u hu
    · exact hx
theorem grow_len {s : Int} {l : List Int} {n : Nat} (hn : n < l.length) : (srt ((tickS s l).take n)).length = n ∧ (srt ((tickS s l).take (n + 1))).length = n + 1 := by
  rw [srt_len, srt_len, List.length_take, List.length_take, tickS_len]
  omega
theorem grow_mem {s : Int} {l : List Int} {n : Nat} (hn : n < l.length) {u : Int} (hu : u ∈ srt ((tickS s l).take n)) : u ∈ srt ((tickS s l).take (n + 1)) ∧ u ∈ l := by
  rw [mem_srt] at *
  refine ⟨?_, ?_⟩
  · rw [List.take_succ_eq_append_getElem (by rw [tickS_len]; exact hn)]
    exact List.mem_append_left _ hu
  · exact mem_tickS.1 (List.mem_of_mem_take hu)
section
variable {s : Int} {l : List Int} {n : Nat} (h : Asc l) (hl : l.length ≤ 60) (hn : n < l.length)
include h hl hn
theorem grow_a : sampleP s l (n : Int) = (srt ((tickS s l).take n), 0) := sampleP_ok h.nodup h.pos hl (by omega)
theorem grow_b : sampleP s l.reverse (n : Int) = (srt ((tickS s l).take n), 0) := by
  rw [sampleP_ok ((List.reverse_perm l).nodup_iff.2 h.nodup) (fun u hu => h.pos u (List.mem_reverse.1 hu)) (by simpa using hl) (by rw [List.length_reverse]; omega), tickS_of_perm s (List.reverse_perm l)]
theorem grow_d : sampleP s l (n + 1 : Int) = (srt ((tickS s l).take (n + 1)), 0) := by
  have := sampleP_ok (s := s) (k := n + 1) h.nodup h.pos hl (by omega)
  rw [← this]
  rfl
theorem grow_rest (p : Int → Bool) (hp : ∀ u ∈ srt ((tickS s l).take n), p u = true) : sampleP s (l.filter p) (n : Int) = (srt ((tickS s l).take n), 0) := by
  have hp' : ∀ u ∈ (tickS s l).take n, p u = true := fun u hu => hp u (mem_srt.2 hu)
  have ht : ((tickS s l).filter p).take n = (tickS s l).take n := take_filter (by rw [tickS_len]; omega) hp'
  have hlen : n ≤ (l.filter p).length := by
    have h1 := congrArg List.length ht
    rw [List.length_take, List.length_take, tickS_len] at h1
    rw [← tickS_len s (l.filter p), tickS_filter]
    omega
  rw [sampleP_ok (h.nodup.sublist List.filter_sublist) (fun u hu => h.pos u (List.mem_filter.1 hu).1) (Nat.le_trans (List.length_filter_le _ _) hl) hlen, tickS_filter, ht]
end
/-- Who stays on the list. -/
def stays (G : Int) (a : List Int) (u : Int) : Bool := decide (u ≠ G) || decide (u ∈ a)
theorem rest_succ (f : Int → Bool) (l : List Int) (j : Nat) (hj : j < l.length) : (l.take (j + 1)).filter f = if f l[j] then (l.take j).filter f ++ [l[j]] else (l.take j).filter f := by
  rw [List.take_succ_eq_append_getElem hj, List.filter_append, List.filter_cons, List.filter_nil]
  cases f l[j] <;> simp
theorem asc_inj {l : List Int} (h : Asc l) {i j : Nat} (hi : i < l.length) (hj : j < l.length) : l[i] = l[j] ↔ i = j := by
  constructor
  · intro e
    have h' := h.nodup
    rw [List.Nodup, List.pairwise_iff_getElem] at h'
    rcases Nat.lt_trichotomy i j with hlt | rfl | hlt
    · exact absurd e (h' i j hi hj hlt)
    · rfl
    · exact absurd e.symm (h' j i hj hi hlt)
  · rintro rfl; rfl
end Go.Proofs.Ytbkkmgofjhaaoaa
