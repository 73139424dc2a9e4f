/- Plain: who is drawn by counting those before is the sample; a number put into an ascending list. -/
import Derived.Test.YtjmbdfoegnfpnaaDY
namespace Go.Proofs.Ytjmbdfoegnfpnaa
open Go.RowKit
set_option linter.unusedVariables false
set_option linter.unusedSimpArgs false

theorem filter_count (b : Int → Int → Bool) (hirr : ∀ x, b x x = false) (hasym : ∀ x y, b x y = true → b y x = false) : ∀ (t : List Int) (k : Nat), t.Pairwise (fun x y => b x y = true) → t.filter (fun u => decide (t.countP (fun v => b v u) < k)) = t.take k
  | [], k, _ => by simp
  | x :: t, 0, _ => by simp
  | x :: t, k + 1, h => by
    rw [List.pairwise_cons] at h
    have h0 : (x :: t).countP (fun v => b v x) = 0 := by
      rw [List.countP_eq_zero]
      intro y hy
      rw [List.mem_cons] at hy
      rcases hy with rfl | hy
      · simp [hirr]
      · simp [hasym _ _ (h.1 y hy)]
    have h1 : ∀ y ∈ t, (x :: t).countP (fun v => b v y) = t.countP (fun v => b v y) + 1 := by
      intro y hy
      rw [List.countP_cons, h.1 y hy]
      rfl
    rw [List.filter_cons, if_pos (by simp [h0]), List.take_succ_cons, ← filter_count b hirr hasym t k h.2]
    congr 1
    apply List.filter_congr
    intro y hy
    rw [h1 y hy]
    simp
theorem nodup_badU {l : List Int} (h : (List.range l.length).any (badU l) = false) : l.Nodup := by
  rw [List.any_eq_false] at h
  rw [List.Nodup, List.pairwise_iff_getElem]
  intro i j hi hj hij e
  have hb := h j (by simpa using hj)
  apply hb
  unfold badU
  have e1 : l.getD j 0 = l[j] := by simp [List.getD_eq_getElem?_getD, hj]
  rw [e1, ← e]
  have hm : l[i] ∈ l.take j := by
    rw [List.mem_take_iff_getElem]
    exact ⟨i, by omega, rfl⟩
  simp [hm]
theorem sample_count (s : Int) (l : List Int) (k : Int) (hb : (List.range l.length).any (badU l) = false) (hk : 0 ≤ k) :
    srt ((tickS s l).take k.toNat) = srt (l.filter fun u => decide (((l.countP fun v => beforeT s v u) : Int) < k)) := by
  have hp : (tickS s l).Perm l := List.mergeSort_perm l _
  have hn : (tickS s l).Nodup := hp.nodup_iff.2 (nodup_badU hb)
  have h1 : (tickS s l).Pairwise (fun a b => (!beforeT s b a) = true) := List.pairwise_mergeSort (fun a b c h1 h2 => by
    rw [Bool.not_eq_true', beforeT_not] at *; omega) (fun a b => by
    cases h : beforeT s b a
    · simp
    · rw [beforeT_iff] at h
      have : beforeT s a b = false := by rw [beforeT_not]; omega
      simp [this]) l
  have h2 : (tickS s l).Pairwise (fun a b => beforeT s a b = true) := by
    refine (h1.and hn).imp ?_
    rintro a b ⟨h, hne⟩
    rw [Bool.not_eq_true', beforeT_not] at h
    rw [beforeT_iff]
    omega
  have h3 := filter_count (beforeT s) (fun x => by rw [beforeT_not]; omega) (fun x y h => by rw [beforeT_iff] at h; rw [beforeT_not]; omega) _ k.toNat h2
  rw [← h3]
  have e : ∀ u, decide ((tickS s l).countP (fun v => beforeT s v u) < k.toNat) = decide (((l.countP fun v => beforeT s v u) : Int) < k) := by
    intro u
    rw [hp.countP_eq]
    congr 1
    rw [eq_iff_iff]
    omega
  simp only [e]
  exact srt_perm_eq ((hp.filter _).trans (List.mergeSort_perm _ _).symm) (srt_le _)

/-- An ascending list with a number more. -/
def putP (l : List Int) (n : Int) : List Int := l.takeWhile (fun x => decide (x ≤ n)) ++ n :: l.dropWhile (fun x => decide (x ≤ n))
theorem putP_perm (l : List Int) (n : Int) : (putP l n).Perm (n :: l) := by
  unfold putP
  refine List.perm_middle.trans ?_
  rw [List.takeWhile_append_dropWhile]
theorem putP_len (l : List Int) (n : Int) : (putP l n).length = l.length + 1 := (putP_perm l n).length_eq
theorem takeWhile_le : ∀ (l : List Int) (n : Int), ∀ a ∈ l.takeWhile (fun x => decide (x ≤ n)), a ≤ n
  | [], n, a, h => by simp at h
  | x :: l, n, a, h => by
    rw [List.takeWhile_cons] at h
    split at h
    · rename_i hx
      rw [List.mem_cons] at h
      rcases h with rfl | h
      · simpa using hx
      · exact takeWhile_le l n a h
    · simp at h
theorem dropWhile_lt : ∀ (l : List Int) (n : Int), l.Pairwise (· ≤ ·) → ∀ a ∈ l.dropWhile (fun x => decide (x ≤ n)), n < a
  | [], n, _ => by simp
  | x :: l, n, h => by
    rw [List.pairwise_cons] at h
    intro a ha
    rw [List.dropWhile_cons] at ha
    split at ha
    · exact dropWhile_lt l n h.2 a ha
    · rename_i hx
      rw [List.mem_cons] at ha
      simp at hx
      rcases ha with rfl | ha
      · exact hx
      · have := h.1 a ha; omega
theorem putP_sorted (l : List Int) (n : Int) (h : l.Pairwise (· ≤ ·)) : (putP l n).Pairwise (· ≤ ·) := by
  unfold putP
  have h1 := takeWhile_le l n
  have h2 := dropWhile_lt l n h
  rw [List.pairwise_append, List.pairwise_cons]
  refine ⟨h.sublist (List.takeWhile_sublist _), ⟨fun a ha => ?_, h.sublist (List.dropWhile_sublist _)⟩, fun a ha b hb => ?_⟩
  · have := h2 a ha; omega
  · have := h1 a ha
    rw [List.mem_cons] at hb
    rcases hb with rfl | hb
    · exact this
    · have := h2 b hb; omega
theorem srt_snoc (l : List Int) (x : Int) : srt (l ++ [x]) = putP (srt l) x := by
  refine srt_perm_eq ?_ (putP_sorted _ _ (srt_le l))
  refine List.Perm.trans ?_ (putP_perm _ _).symm
  refine (List.perm_append_comm (l₁ := l) (l₂ := [x])).trans ?_
  exact List.Perm.cons x (List.mergeSort_perm l _).symm
/-- What Put has put out when it has read some of the list. -/
def hasP (l : List Int) (x : Int) : Bool := l.any fun y => decide (x < y)
def outQ (l : List Int) (x : Int) : List Int := if hasP l x then putP l x else l
theorem dropWhile_all : ∀ {l : List Int} {x : Int}, hasP l x = false → l.takeWhile (fun y => decide (y ≤ x)) = l ∧ l.dropWhile (fun y => decide (y ≤ x)) = []
  | [], x, h => by simp
  | a :: l, x, h => by
    unfold hasP at h
    rw [List.any_cons, Bool.or_eq_false_iff] at h
    have ha : decide (a ≤ x) = true := by have := h.1; simp at this ⊢; omega
    have ih := dropWhile_all (l := l) (x := x) h.2
    simp only [List.takeWhile_cons, List.dropWhile_cons, ha, if_true, ih.1, ih.2]
    exact ⟨trivial, trivial⟩
theorem putP_none {l : List Int} {x : Int} (h : hasP l x = false) : putP l x = l ++ [x] := by
  unfold putP
  rw [(dropWhile_all h).1, (dropWhile_all h).2]
theorem hasP_snoc (l : List Int) (x y : Int) : hasP (l ++ [y]) x = (hasP l x || decide (x < y)) := by simp [hasP]
theorem putP_snoc : ∀ (l : List Int) (x y : Int), hasP l x = true → putP (l ++ [y]) x = putP l x ++ [y]
  | [], x, y, h => by simp [hasP] at h
  | a :: l, x, y, h => by
    unfold putP
    by_cases ha : a ≤ x
    · have h' : hasP l x = true := by
        unfold hasP at h ⊢
        rw [List.any_cons, Bool.or_eq_true] at h
        rcases h with h | h
        · simp at h; omega
        · exact h
      have ih := putP_snoc l x y h'
      unfold putP at ih
      rw [List.cons_append, List.takeWhile_cons_of_pos (by simpa using ha), List.dropWhile_cons_of_pos (by simpa using ha), List.takeWhile_cons_of_pos (by simpa using ha), List.dropWhile_cons_of_pos (by simpa using ha), List.cons_append, ih]
      simp
    · rw [List.cons_append, List.takeWhile_cons_of_neg (by simpa using ha), List.dropWhile_cons_of_neg (by simpa using ha), List.takeWhile_cons_of_neg (by simpa using ha), List.dropWhile_cons_of_neg (by simpa using ha)]
      simp
theorem putP_first {l : List Int} {x y : Int} (h : hasP l x = false) (hy : x < y) : putP (l ++ [y]) x = l ++ [x] ++ [y] := by
  unfold putP
  have h1 := dropWhile_all h
  have e1 : (l ++ [y]).takeWhile (fun z => decide (z ≤ x)) = l := by
    rw [List.takeWhile_append, h1.1, if_pos rfl, List.takeWhile_cons_of_neg (by simp; omega), List.append_nil]
  have e2 : (l ++ [y]).dropWhile (fun z => decide (z ≤ x)) = [y] := by
    rw [List.dropWhile_append, h1.2]
    simp [show ¬ y ≤ x by omega]
  rw [e1, e2]
  simp
theorem outQ_snoc (l : List Int) (x y : Int) : outQ (l ++ [y]) x = if hasP l x then outQ l x ++ [y] else if x < y then outQ l x ++ [x] ++ [y] else outQ l x ++ [y] := by
  unfold outQ
  rw [hasP_snoc]
  cases h : hasP l x with
  | true => simp [putP_snoc l x y h]
  | false =>
    by_cases hy : x < y
    · simp [hy, putP_first h hy]
    · simp [hy]
theorem outQ_len (l : List Int) (x : Int) : (outQ l x).length ≤ l.length + 1 := by
  unfold outQ
  split
  · rw [putP_len]; omega
  · omega
end Go.Proofs.Ytjmbdfoegnfpnaa
