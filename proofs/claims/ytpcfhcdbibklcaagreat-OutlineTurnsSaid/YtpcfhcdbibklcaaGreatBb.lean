/- Plain law: the border, as the program adds it up, and as the reference does. -/
import Derived.Test.YtpcfhcdbibklcaaGreatBa
namespace Go.Proofs.YtpcfhcdbibklcaaGreat
set_option linter.unusedVariables false
set_option linter.unusedSimpArgs false

/-- The length of an edge (from l, b to r, t). -/
def len1 (e : R4) : Int := max (e.r - e.l) (e.l - e.r) + max (e.t - e.b) (e.b - e.t)
/-- The spans of a row as rectangles. -/
def rr (v : List (Sg Unit)) : List R4 := v.map fun s => ⟨s.1, 0, s.2.1, 1⟩
/-- The horizontal edges between a row and the one above it. -/
def levelP (below above : List (Sg Unit)) (y : Int) : List R4 :=
  ((chooseP notB (rr above) (rr below)).map fun r => ⟨r.l, y, r.r, y⟩) ++ ((chooseP notB (rr below) (rr above)).map fun r => ⟨r.r, y, r.l, y⟩)
def wallsP (v : List (Sg Unit)) (y y' : Int) : List R4 := v.flatMap fun s => [⟨s.1, y', s.1, y⟩, ⟨s.2.1, y, s.2.1, y'⟩]
def edgesC (l : List R4) : List Int → List R4
  | y :: y' :: r => levelP (rowP l (y - 1)) (rowP l y) y ++ wallsP (rowP l y) y y' ++ edgesC l (y' :: r)
  | [y] => levelP (rowP l (y - 1)) (rowP l y) y
  | [] => []
def edgesP (l : List R4) : List R4 := edgesC l (cutsP l)
/-- The border, as the program adds it up. -/
def bordP (l : List R4) : Int := sumL len1 (edgesP l)

theorem rr_in (v : List (Sg Unit)) (x y : Int) : inL (rr v) x y = (inR v x && decide (0 ≤ y) && decide (y < 1)) := by
  unfold inL inR rr
  induction v with
  | nil => rfl
  | cons s t ih =>
    rw [List.map_cons, List.any_cons, ih, List.any_cons]
    simp only [R4.has, inS]
    cases decide (s.1 ≤ x) <;> cases decide (x < s.2.1) <;> cases decide (0 ≤ y) <;> cases decide (y < 1) <;> simp
theorem rr_pos {v : List (Sg Unit)} (h : ∀ s ∈ v, s.1 < s.2.1) : ∀ q ∈ rr v, q.l < q.r := by
  intro q hq
  obtain ⟨s, hs, rfl⟩ := List.mem_map.1 hq
  exact h s hs
/-- The widths of what is in one row and not in another one. -/
theorem choose_width (A B : List (Sg Unit)) (n : Nat) (hn : 1 ≤ n) (hA : ∀ s ∈ A, 0 ≤ s.1 ∧ s.1 < s.2.1 ∧ s.2.1 ≤ n) (hB : ∀ s ∈ B, 0 ≤ s.1 ∧ s.1 < s.2.1 ∧ s.2.1 ≤ n) :
    sumL (fun q : R4 => q.r - q.l) (chooseP notB (rr A) (rr B)) = sumI (fun x => ind (inR A x && !inR B x)) 0 n ∧ ∀ q ∈ chooseP notB (rr A) (rr B), 0 ≤ q.l ∧ q.l < q.r ∧ q.r ≤ n := by
  have hc := choose_canon notB rfl (rr A) (rr B) (rr_pos fun s hs => (hA s hs).2.1) (rr_pos fun s hs => (hB s hs).2.1)
  have hP : ∀ x y, notB (inL (rr A) x y) (inL (rr B) x y) = (inR A x && !inR B x && decide (0 ≤ y) && decide (y < 1)) := fun x y => by
    rw [rr_in, rr_in]
    unfold notB
    cases inR A x <;> cases inR B x <;> cases decide (0 ≤ y) <;> cases decide (y < 1) <;> rfl
  have hbd : ∀ x y, notB (inL (rr A) x y) (inL (rr B) x y) = true → 0 ≤ x ∧ x < n ∧ 0 ≤ y ∧ y < 1 := fun x y h => by
    rw [hP] at h
    simp only [Bool.and_eq_true, decide_eq_true_eq] at h
    obtain ⟨⟨⟨h1, _⟩, h2⟩, h3⟩ := h
    obtain ⟨s, hs, h4⟩ := List.any_eq_true.1 h1
    simp only [inS, Bool.and_eq_true, decide_eq_true_eq] at h4
    have := hA s hs
    omega
  have hbq := hc.bd 0 n 0 1 hbd
  refine ⟨?_, fun q hq => by have := hbq q hq; omega⟩
  have hsz := canon_size hc n (fun x y h => by have := hbd x y h; omega)
  rw [sizeP_sum] at hsz
  have e1 : sumL (fun q : R4 => q.r - q.l) (chooseP notB (rr A) (rr B)) = sumL (fun q : R4 => (q.r - q.l) * (q.t - q.b)) (chooseP notB (rr A) (rr B)) := sumL_congr fun q hq => by
    have := hbq q hq
    rw [show q.t - q.b = 1 by omega, Int.mul_one]
  rw [e1]
  show (List.map _ _).sum = _
  rw [← hsz]
  obtain ⟨m, rfl⟩ : ∃ m, n = m + 1 := ⟨n - 1, by omega⟩
  rw [show sumI (fun y => sumI (fun x => ind (notB (inL (rr A) x y) (inL (rr B) x y))) 0 (m + 1)) 0 (m + 1) = sumI (fun x => ind (notB (inL (rr A) x 0) (inL (rr B) x 0))) 0 (m + 1) + sumI (fun y => sumI (fun x => ind (notB (inL (rr A) x y) (inL (rr B) x y))) 0 (m + 1)) (0 + 1) m from rfl]
  rw [sumI_const _ 0 m (0 + 1) fun y h1 h2 => by
    rw [sumI_const _ 0 (m + 1) 0 fun x _ _ => by rw [hP, decide_eq_false (show ¬ y < 1 by omega)]; simp [ind]]
    simp]
  rw [sumI_congr _ (fun x => ind (inR A x && !inR B x)) (m + 1) 0 fun x _ _ => by rw [hP]; simp]
  simp
theorem len_flat (y : Int) (q : R4) (h : q.l < q.r) : len1 ⟨q.l, y, q.r, y⟩ = q.r - q.l ∧ len1 ⟨q.r, y, q.l, y⟩ = q.r - q.l := by
  unfold len1
  simp only
  omega
theorem level_len (A B : List (Sg Unit)) (y : Int) (n : Nat) (hn : 1 ≤ n) (hA : ∀ s ∈ A, 0 ≤ s.1 ∧ s.1 < s.2.1 ∧ s.2.1 ≤ n) (hB : ∀ s ∈ B, 0 ≤ s.1 ∧ s.1 < s.2.1 ∧ s.2.1 ≤ n) :
    sumL len1 (levelP B A y) = sumI (fun x => ind (inR A x && !inR B x)) 0 n + sumI (fun x => ind (inR B x && !inR A x)) 0 n := by
  obtain ⟨h1, h2⟩ := choose_width A B n hn hA hB
  obtain ⟨h3, h4⟩ := choose_width B A n hn hB hA
  unfold levelP
  rw [sumL_app, sumL_map, sumL_map, ← h1, ← h3, sumL_congr fun q hq => (len_flat y q (h2 q hq).2.1).1, sumL_congr fun q hq => (len_flat y q (h4 q hq).2.1).2]
theorem walls_len (v : List (Sg Unit)) (y y' : Int) (h : y < y') : sumL len1 (wallsP v y y') = (y' - y) * (v.length + v.length) := by
  unfold wallsP
  rw [sumL_flat, sumL_congr (h := fun _ => 2 * (y' - y)) fun s _ => by
    rw [sumL_cons, sumL_cons, sumL_nil]
    unfold len1
    simp only
    omega, sumL_const, Int.mul_comm, Int.mul_comm 2 (y' - y), Int.mul_assoc]
  congr 1
  omega
theorem edgesC_len (l : List R4) (n : Nat) (hn : 1 ≤ n) (hl : InS n l) : ∀ (cuts : List Int), cuts.Pairwise (· < ·) →
    sumL len1 (edgesC l cuts) = sumL (fun y => sumI (fun x => D1 (inL l) x y) 0 n) cuts + sumL (fun y => sumI (fun x => D3 (inL l) x (y - 1)) 0 n) cuts + stepL (fun y => ((rowP l y).length + (rowP l y).length : Int)) cuts
  | [], _ => rfl
  | [y], _ => by
    have h := level_len (rowP l y) (rowP l (y - 1)) y n hn (row_in hl y) (row_in hl (y - 1))
    show sumL len1 (levelP (rowP l (y - 1)) (rowP l y) y) = _
    rw [h]
    simp only [sumL_cons, sumL_nil, stepL]
    rw [sumI_congr (fun x => ind (inR (rowP l y) x && !inR (rowP l (y - 1)) x)) (fun x => D1 (inL l) x y) n 0 fun x _ _ => by rw [inR_row l y x fun q hq => (hl q hq).2.1, inR_row l (y - 1) x fun q hq => (hl q hq).2.1]; rfl]
    rw [sumI_congr (fun x => ind (inR (rowP l (y - 1)) x && !inR (rowP l y) x)) (fun x => D3 (inL l) x (y - 1)) n 0 fun x _ _ => by rw [inR_row l y x fun q hq => (hl q hq).2.1, inR_row l (y - 1) x fun q hq => (hl q hq).2.1]; unfold D3; rw [show y - 1 + 1 = y by omega]]
    omega
  | y :: y' :: r, hp => by
    have h := level_len (rowP l y) (rowP l (y - 1)) y n hn (row_in hl y) (row_in hl (y - 1))
    have hw := walls_len (rowP l y) y y' ((List.pairwise_cons.1 hp).1 y' (by simp))
    have ih := edgesC_len l n hn hl (y' :: r) (List.pairwise_cons.1 hp).2
    show sumL len1 (levelP (rowP l (y - 1)) (rowP l y) y ++ wallsP (rowP l y) y y' ++ edgesC l (y' :: r)) = _
    rw [sumL_app, sumL_app, h, hw, ih, sumL_cons _ y, sumL_cons _ y]
    simp only [stepL]
    rw [sumI_congr (fun x => ind (inR (rowP l y) x && !inR (rowP l (y - 1)) x)) (fun x => D1 (inL l) x y) n 0 fun x _ _ => by rw [inR_row l y x fun q hq => (hl q hq).2.1, inR_row l (y - 1) x fun q hq => (hl q hq).2.1]; rfl]
    rw [sumI_congr (fun x => ind (inR (rowP l (y - 1)) x && !inR (rowP l y) x)) (fun x => D3 (inL l) x (y - 1)) n 0 fun x _ _ => by rw [inR_row l y x fun q hq => (hl q hq).2.1, inR_row l (y - 1) x fun q hq => (hl q hq).2.1]; unfold D3; rw [show y - 1 + 1 = y by omega]]
    omega
theorem inL_grid {l : List R4} {n : Nat} (h : InS n l) : Grid (inL l) n := ⟨fun x y hx => by
  obtain ⟨q, hq, h1⟩ := List.any_eq_true.1 hx
  simp only [R4.has, Bool.and_eq_true, decide_eq_true_eq] at h1
  have := h q hq
  omega⟩
theorem inL_same_y {l : List R4} {ys : List Int} (h : ∀ q ∈ l, q.b ∈ ys ∧ q.t ∈ ys) (y : Int) (hy : y ∉ ys) (x : Int) : inL l x y = inL l x (y - 1) :=
  any_congr' fun q hq => by
    obtain ⟨h1, h2⟩ := h q hq
    have e1 : q.b ≠ y := fun e => hy (e ▸ h1)
    have e2 : q.t ≠ y := fun e => hy (e ▸ h2)
    unfold R4.has
    rw [show decide (q.b ≤ y) = decide (q.b ≤ y - 1) from decide_eq_decide.2 (by omega), show decide (y < q.t) = decide (y - 1 < q.t) from decide_eq_decide.2 (by omega)]
theorem inL_same_x {l : List R4} {xs : List Int} (h : ∀ q ∈ l, q.l ∈ xs ∧ q.r ∈ xs) (x : Int) (hx : x ∉ xs) (y : Int) : inL l x y = inL l (x - 1) y :=
  any_congr' fun q hq => by
    obtain ⟨h1, h2⟩ := h q hq
    have e1 : q.l ≠ x := fun e => hx (e ▸ h1)
    have e2 : q.r ≠ x := fun e => hx (e ▸ h2)
    unfold R4.has
    rw [show decide (q.l ≤ x) = decide (q.l ≤ x - 1) from decide_eq_decide.2 (by omega), show decide (x < q.r) = decide (x - 1 < q.r) from decide_eq_decide.2 (by omega)]
theorem row_same {l : List R4} (hl : ∀ q ∈ l, q.l < q.r) {y z : Int} (h : ∀ x, inL l x y = inL l x z) : rowP l y = rowP l z := by
  have h1 := rowP_segs l y hl
  have h2 := rowP_segs l z hl
  have e : (fun x => opt (inL l x y)) = fun x => opt (inL l x z) := funext fun x => by rw [h x]
  rw [e] at h1
  exact h1.uniq h2
theorem row_count (l : List R4) (n : Nat) (hl : InS n l) (y : Int) : sumI (fun x => D2 (inL l) x y) 0 n = (rowP l y).length ∧ sumI (fun x => D4 (inL l) x y) 0 n = (rowP l y).length := by
  have hg := inL_grid hl
  have hs := segs_from0 (rowP_segs l y fun q hq => (hl q hq).2.1) fun x hx => by rw [hg.out x y (.inl hx)]; rfl
  exact ⟨hs.ends n fun x hx => hg.out x y (by omega), hs.starts (.inr (hg.out (0 - 1) y (by omega))) n fun x hx => hg.out x y (by omega)⟩
/-- What the program adds up is the border. -/
theorem bordP_true (l : List R4) (n : Nat) (hn : 1 ≤ n) (hl : InS n l) : bordP l = bordT (inL l) n := by
  have hg := inL_grid hl
  have hpos : ∀ q ∈ l, q.l < q.r := fun q hq => (hl q hq).2.1
  have hc := asc_all (yEdges l)
  have hcb : ∀ k ∈ cutsP l, 0 ≤ k ∧ k ≤ n := fun k hk => by
    have h1 := (hc.2.1 k).1 hk
    obtain ⟨q, hq, h2⟩ := List.mem_flatMap.1 h1
    have := hl q hq
    simp at h2
    omega
  have hst := fun y (hy : y ∉ cutsP l) x => inL_same_y (fun q hq => cutsP_mem hq) y hy x
  unfold bordP edgesP
  rw [edgesC_len l n hn hl (cutsP l) hc.1, rows_low hg (cutsP l) hc.1 hcb hst, rows_high hg (cutsP l) hc.1 hcb hst]
  have hrow0 : ∀ z, (z < 0 ∨ (n : Int) ≤ z ∨ (∀ k ∈ cutsP l, z < k) ∨ (∀ k ∈ cutsP l, k ≤ z)) → rowP l z = [] := fun z hz => by
    refine segs_none (p := fun x => inL l x z) (fun x => ?_) (rowP_segs l z hpos)
    rcases hz with h | h | h
    · exact hg.out x z (by omega)
    · exact hg.out x z (by omega)
    · exact inL_out_y l x (cutsP l) (fun q hq => cutsP_mem hq) z h
  rw [← stepL_sum (fun y => ((rowP l y).length + (rowP l y).length : Int)) (cutsP l) n hc.1 (fun y z hy hyz hk => by
    show ((rowP l z).length + (rowP l z).length : Int) = (rowP l y).length + (rowP l y).length
    rw [row_same hpos fun x => inL_steady_y l x (cutsP l) (fun q hq => cutsP_mem hq) y z hy hyz hk]) hcb (fun z hz => by
    show ((rowP l z).length + (rowP l z).length : Int) = 0
    rw [hrow0 z (.inr (.inr hz))]; rfl)]
  have e : sumI (fun y => ((rowP l y).length + (rowP l y).length : Int)) 0 n = all2 (D2 (inL l)) n + all2 (D4 (inL l)) n := by
    unfold all2
    rw [← sumI_plus]
    exact sumI_congr _ _ n 0 fun y _ _ => by rw [(row_count l n hl y).1, (row_count l n hl y).2]
  rw [e]
  unfold bordT
  omega
end Go.Proofs.YtpcfhcdbibklcaaGreat
