/- Plain: the edges of a region, cut by cut; bounds (outline). -/
import Derived.Test.YtpcfhcdbibklcaaGreatBd
namespace Go.Proofs.YtpcfhcdbibklcaaGreat
open Go.RowKit
set_option linter.unusedVariables false
set_option linter.unusedSimpArgs false

theorem mem_getDE {ys : List Int} {k : Nat} (hk : k < ys.length) : ys.getD k 0 ∈ ys := by
  rw [List.getD_eq_getElem?_getD, List.getElem?_eq_getElem hk]; exact List.getElem_mem hk
/-- The edges that a cut adds. -/
def pieceE (l : List R4) (cuts : List Int) (i : Nat) : List R4 := levelP (rowP l (cuts.getD i 0 - 1)) (rowP l (cuts.getD i 0)) (cuts.getD i 0) ++ (if i + 1 < cuts.length then wallsP (rowP l (cuts.getD i 0)) (cuts.getD i 0) (cuts.getD (i + 1) 0) else [])
def edgesTo (l : List R4) (cuts : List Int) (j : Nat) : List R4 := (List.range j).flatMap (pieceE l cuts)
theorem edgesTo_succ (l : List R4) (cuts : List Int) (j : Nat) : edgesTo l cuts (j + 1) = edgesTo l cuts j ++ pieceE l cuts j := by
  unfold edgesTo
  rw [List.range_succ, List.flatMap_append]
  simp
theorem edgesC_to (l : List R4) : ∀ (cuts : List Int), edgesC l cuts = edgesTo l cuts cuts.length
  | [] => rfl
  | [y] => by simp [edgesTo, pieceE, edgesC]
  | y :: y' :: r => by
    have ih := edgesC_to l (y' :: r)
    show levelP (rowP l (y - 1)) (rowP l y) y ++ wallsP (rowP l y) y y' ++ edgesC l (y' :: r) = _
    rw [ih]
    unfold edgesTo
    rw [show (y :: y' :: r).length = (y' :: r).length + 1 from rfl, List.range_succ_eq_map, List.flatMap_cons, List.flatMap_map]
    have e0 : pieceE l (y :: y' :: r) 0 = levelP (rowP l (y - 1)) (rowP l y) y ++ wallsP (rowP l y) y y' := by simp [pieceE]
    have e1 : (fun i => pieceE l (y :: y' :: r) (i + 1)) = pieceE l (y' :: r) := funext fun i => by simp [pieceE]
    rw [e0]
    show _ = _ ++ (List.range (y' :: r).length).flatMap fun i => pieceE l (y :: y' :: r) (i + 1)
    rw [e1]
theorem level_len2 (v u : List (Sg Unit)) (y : Int) (hv : v.length ≤ 120) (hu : u.length ≤ 120) : (levelP v u y).length ≤ 460800 := by
  have h1 := choose_len2 notB (rr u) (rr v)
  have h2 := choose_len2 notB (rr v) (rr u)
  rw [rr_len, rr_len] at h1 h2
  have h3 : (2 * (u.length + v.length)) * (2 * (u.length + v.length)) ≤ 480 * 480 := Nat.mul_le_mul (by omega) (by omega)
  have h4 : (2 * (v.length + u.length)) * (2 * (v.length + u.length)) ≤ 480 * 480 := Nat.mul_le_mul (by omega) (by omega)
  rw [levelP_eq, List.length_append, lowE_len, highE_len]
  omega
theorem walls_len2 (v : List (Sg Unit)) (y y' : Int) : (wallsP v y y').length = 2 * v.length := by
  unfold wallsP
  induction v with
  | nil => rfl
  | cons s t ih => rw [List.flatMap_cons, List.length_append, ih, List.length_cons]; simp; omega
theorem walls_take (v : List (Sg Unit)) (y y' : Int) (k : Nat) (h : k < v.length) : wallsP (v.take (k + 1)) y y' = wallsP (v.take k) y y' ++ [⟨v[k].1, y', v[k].1, y⟩, ⟨v[k].2.1, y, v[k].2.1, y'⟩] := by
  unfold wallsP
  rw [List.take_succ_eq_append_getElem h, List.flatMap_append]
  simp
theorem piece_len (l : List R4) (hl : l.length ≤ 120) (cuts : List Int) (i : Nat) : (pieceE l cuts i).length ≤ 461040 := by
  unfold pieceE
  have h1 := level_len2 (rowP l (cuts.getD i 0 - 1)) (rowP l (cuts.getD i 0)) (cuts.getD i 0) (by have := rowP_len l (cuts.getD i 0 - 1); omega) (by have := rowP_len l (cuts.getD i 0); omega)
  have h2 := walls_len2 (rowP l (cuts.getD i 0)) (cuts.getD i 0) (cuts.getD (i + 1) 0)
  have h3 := rowP_len l (cuts.getD i 0)
  rw [List.length_append]
  split
  · omega
  · simp only [List.length_nil]; omega
theorem edgesTo_len (l : List R4) (hl : l.length ≤ 120) (cuts : List Int) : ∀ j, (edgesTo l cuts j).length ≤ j * 461040
  | 0 => by simp [edgesTo]
  | j + 1 => by
    have h1 := edgesTo_len l hl cuts j
    have h2 := piece_len l hl cuts j
    rw [edgesTo_succ, List.length_append]
    omega
theorem cutsP_len (l : List R4) : (cutsP l).length ≤ 2 * l.length := by rw [← yEdges_len]; exact (asc_all _).2.2
theorem edgesP_len (l : List R4) (hl : l.length ≤ 120) : (edgesP l).length ≤ 110649600 := by
  unfold edgesP
  rw [edgesC_to]
  have h1 := edgesTo_len l hl (cutsP l) (cutsP l).length
  have h2 := cutsP_len l
  omega
theorem piece_mem {l : List R4} {cuts : List Int} {i : Nat} {e : R4} (h : e ∈ pieceE l cuts i) : e ∈ levelP (rowP l (cuts.getD i 0 - 1)) (rowP l (cuts.getD i 0)) (cuts.getD i 0) ∨ i + 1 < cuts.length ∧ e ∈ wallsP (rowP l (cuts.getD i 0)) (cuts.getD i 0) (cuts.getD (i + 1) 0) := by
  unfold pieceE at h
  generalize levelP (rowP l (cuts.getD i 0 - 1)) (rowP l (cuts.getD i 0)) (cuts.getD i 0) = A at *
  generalize wallsP (rowP l (cuts.getD i 0)) (cuts.getD i 0) (cuts.getD (i + 1) 0) = B at *
  rw [List.mem_append] at h
  rcases h with h | h
  · exact .inl h
  · by_cases h2 : i + 1 < cuts.length
    · rw [if_pos h2] at h; exact .inr ⟨h2, h⟩
    · rw [if_neg h2] at h; cases h
/-- A point within bounds. -/
def inB4 (n : Int) (e : R4) : Prop := 0 ≤ e.l ∧ e.l ≤ n ∧ 0 ≤ e.b ∧ e.b ≤ n ∧ 0 ≤ e.r ∧ e.r ≤ n ∧ 0 ≤ e.t ∧ e.t ≤ n
theorem edgesP_in (l : List R4) (n : Nat) (hn : 1 ≤ n) (hl : InS n l) : ∀ e ∈ edgesP l, inB4 n e := by
  have hcb : ∀ k ∈ cutsP l, 0 ≤ k ∧ k ≤ n := fun k hk => by
    have h1 := ((asc_all (yEdges l)).2.1 k).1 hk
    obtain ⟨q, hq, h2⟩ := List.mem_flatMap.1 h1
    have := hl q hq
    simp at h2
    omega
  have hlev : ∀ y : Int, 0 ≤ y → y ≤ n → ∀ e ∈ levelP (rowP l (y - 1)) (rowP l y) y, inB4 n e := fun y h0 h1 e he => by
    obtain ⟨_, h2⟩ := choose_width (rowP l y) (rowP l (y - 1)) n hn (row_in hl y) (row_in hl (y - 1))
    obtain ⟨_, h3⟩ := choose_width (rowP l (y - 1)) (rowP l y) n hn (row_in hl (y - 1)) (row_in hl y)
    rcases List.mem_append.1 he with he | he
    · obtain ⟨q, hq, rfl⟩ := List.mem_map.1 he
      have := h2 q hq
      unfold inB4
      simp only
      omega
    · obtain ⟨q, hq, rfl⟩ := List.mem_map.1 he
      have := h3 q hq
      unfold inB4
      simp only
      omega
  intro e he
  unfold edgesP at he
  rw [edgesC_to] at he
  obtain ⟨i, hi, he⟩ := List.mem_flatMap.1 he
  rw [List.mem_range] at hi
  have hm := piece_mem he
  clear he
  generalize cutsP l = cuts at *
  have hy := hcb _ (mem_getDE hi)
  have hy2 : i + 1 < cuts.length → 0 ≤ cuts.getD (i + 1) 0 ∧ cuts.getD (i + 1) 0 ≤ n := fun h2 => hcb _ (mem_getDE h2)
  generalize cuts.getD i 0 = y at *
  generalize cuts.getD (i + 1) 0 = y' at *
  have hl1 := hlev y hy.1 hy.2
  clear hlev hcb
  generalize levelP (rowP l (y - 1)) (rowP l y) y = lv at *
  rcases hm with he | ⟨h2, he⟩
  · exact hl1 e he
  · have hy' := hy2 h2
    have hrow := row_in hl y
    generalize rowP l y = v at *
    obtain ⟨s, hs, he⟩ := List.mem_flatMap.1 he
    have hs' := hrow s hs
    unfold inB4
    simp at he
    rcases he with rfl | rfl
    · simp only; omega
    · simp only; omega
end Go.Proofs.YtpcfhcdbibklcaaGreat
