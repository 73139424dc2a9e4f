/- Plain law: the border, as the reference adds it up, is the border. -/
import Derived.Test.YtpcfhcdbibklcaaGreatBb
namespace Go.Proofs.YtpcfhcdbibklcaaGreat
set_option linter.unusedVariables false
set_option linter.unusedSimpArgs false

theorem getD_at {l : List Int} {i : Nat} (h : i < l.length) : l.getD i 0 = l[i] := by rw [List.getD_eq_getElem?_getD, List.getElem?_eq_getElem h]; rfl
theorem sumL_tail (g : Int → Int) (l : List Int) : sumL (fun i => g (l.getD (i + 1) 0)) (List.range (l.length - 1)) = sumL g l.tail := by
  cases l with
  | nil => rfl
  | cons a t => exact sumL_init g t
theorem sumL_but_last (g : Int → Int) (l : List Int) (h : ∀ y, (∀ k ∈ l, k ≤ y) → g y = 0) (hp : l.Pairwise (· < ·)) : sumL (fun i => g (l.getD i 0)) (List.range (l.length - 1)) = sumL g l := by
  cases l with
  | nil => rfl
  | cons a t =>
    rw [← sumL_init g (a :: t)]
    rw [show (a :: t).length = ((a :: t).length - 1) + 1 from rfl, sumL_range_succ]
    have e : g ((a :: t).getD ((a :: t).length - 1) 0) = 0 := by
      refine h _ fun k hk => ?_
      have := getLast_max (a :: t) (by simp) hp k hk
      rw [List.getLast_eq_getElem] at this
      rw [getD_at (by simp)]
      exact this
    rw [e]
    simp
theorem sumL_but_first (g : Int → Int) (l : List Int) (h : ∀ y, (∀ k ∈ l, y ≤ k) → g y = 0) (hp : l.Pairwise (· < ·)) : sumL (fun i => g (l.getD (i + 1) 0)) (List.range (l.length - 1)) = sumL g l := by
  rw [sumL_tail]
  cases l with
  | nil => rfl
  | cons a t =>
    rw [sumL_cons, h a fun k hk => by
      rcases List.mem_cons.1 hk with rfl | hk
      · exact Int.le_refl _
      · exact Int.le_of_lt ((List.pairwise_cons.1 hp).1 k hk)]
    simp
/-- Lines at which a set changes. -/
structure Lines (P : Int → Int → Bool) (n : Nat) (xs ys : List Int) : Prop where
  px : xs.Pairwise (· < ·)
  py : ys.Pairwise (· < ·)
  bx : ∀ k ∈ xs, 0 ≤ k ∧ k ≤ n
  by_ : ∀ k ∈ ys, 0 ≤ k ∧ k ≤ n
  sx : ∀ y, Steady (fun x => P x y) xs
  ox : ∀ y z, (∀ k ∈ xs, z < k) ∨ (∀ k ∈ xs, k ≤ z) → P z y = false
  oy : ∀ x z, (∀ k ∈ ys, z < k) ∨ (∀ k ∈ ys, k ≤ z) → P x z = false
  cy : ∀ y, y ∉ ys → ∀ x, P x y = P x (y - 1)
theorem grid_low {P : Int → Int → Bool} {n : Nat} {xs ys : List Int} (hg : Grid P n) (h : Lines P n xs ys) :
    sumL (fun k => sumL (fun i => (xs.getD (i + 1) 0 - xs.getD i 0) * D1 P (xs.getD i 0) (ys.getD k 0)) (List.range (xs.length - 1))) (List.range (ys.length - 1)) = all2 (D1 P) n := by
  rw [sumL_congr (h := fun k => sumI (fun x => D1 P x (ys.getD k 0)) 0 n) fun k _ => by
    rw [← stepL_range (fun x => D1 P x (ys.getD k 0)) xs]
    refine (stepL_sum _ xs n h.px (fun x z hx hz hk => ?_) h.bx (fun z hz => ?_)).symm
    · show D1 P z _ = D1 P x _
      unfold D1
      have e1 : P z (ys.getD k 0) = P x (ys.getD k 0) := h.sx _ x z hx hz hk
      have e2 : P z (ys.getD k 0 - 1) = P x (ys.getD k 0 - 1) := h.sx _ x z hx hz hk
      rw [e1, e2]
    · show D1 P z _ = 0
      unfold D1
      rw [h.ox _ z hz]; rfl]
  rw [sumL_but_last (fun y => sumI (fun x => D1 P x y) 0 n) ys (fun y hy => by
    show sumI (fun x => D1 P x y) 0 n = 0
    rw [sumI_const _ 0 n 0 fun x _ _ => by unfold D1; rw [h.oy x y (.inr hy)]; rfl]
    simp) h.py]
  exact rows_low hg ys h.py h.by_ h.cy
theorem grid_high {P : Int → Int → Bool} {n : Nat} {xs ys : List Int} (hg : Grid P n) (h : Lines P n xs ys) :
    sumL (fun k => sumL (fun i => (xs.getD (i + 1) 0 - xs.getD i 0) * D3 P (xs.getD i 0) (ys.getD (k + 1) 0 - 1)) (List.range (xs.length - 1))) (List.range (ys.length - 1)) = all2 (D3 P) n := by
  rw [sumL_congr (h := fun k => sumI (fun x => D3 P x (ys.getD (k + 1) 0 - 1)) 0 n) fun k _ => by
    rw [← stepL_range (fun x => D3 P x (ys.getD (k + 1) 0 - 1)) xs]
    refine (stepL_sum _ xs n h.px (fun x z hx hz hk => ?_) h.bx (fun z hz => ?_)).symm
    · show D3 P z _ = D3 P x _
      unfold D3
      have e1 : P z (ys.getD (k + 1) 0 - 1) = P x (ys.getD (k + 1) 0 - 1) := h.sx _ x z hx hz hk
      have e2 : P z (ys.getD (k + 1) 0 - 1 + 1) = P x (ys.getD (k + 1) 0 - 1 + 1) := h.sx _ x z hx hz hk
      rw [e1, e2]
    · show D3 P z _ = 0
      unfold D3
      rw [h.ox _ z hz]; rfl]
  rw [sumL_but_first (fun y => sumI (fun x => D3 P x (y - 1)) 0 n) ys (fun y hy => by
    show sumI (fun x => D3 P x (y - 1)) 0 n = 0
    rw [sumI_const _ 0 n 0 fun x _ _ => by unfold D3; rw [h.oy x (y - 1) (.inl fun k hk => by have := hy k hk; omega)]; rfl]
    simp) h.py]
  exact rows_high hg ys h.py h.by_ h.cy

def xsR (l : List R4) : List Int := (xEdges l).foldl putL []
def ysR (l : List R4) : List Int := (yEdges l).foldl putL []
/-- Whether the squares between two neighbouring lines of each direction are in a region. -/
def inC (l : List R4) (xs ys : List Int) (i k : Int) : Bool := decide (0 ≤ i) && decide (0 ≤ k) && decide (i + 1 < xs.length) && decide (k + 1 < ys.length) && inL l (xs.getD i.toNat 0) (ys.getD k.toNat 0)
def cellR (l : List R4) (xs ys : List Int) (i k : Nat) : List R4 :=
  if inC l xs ys i k then
    (if inC l xs ys i ((k : Int) - 1) then [] else [⟨xs.getD i 0, ys.getD k 0, xs.getD (i + 1) 0, ys.getD k 0⟩]) ++ (if inC l xs ys ((i : Int) + 1) k then [] else [⟨xs.getD (i + 1) 0, ys.getD k 0, xs.getD (i + 1) 0, ys.getD (k + 1) 0⟩]) ++
      (if inC l xs ys i ((k : Int) + 1) then [] else [⟨xs.getD (i + 1) 0, ys.getD (k + 1) 0, xs.getD i 0, ys.getD (k + 1) 0⟩]) ++ (if inC l xs ys ((i : Int) - 1) k then [] else [⟨xs.getD i 0, ys.getD (k + 1) 0, xs.getD i 0, ys.getD k 0⟩])
  else []
def edgesR (l : List R4) : List R4 := (List.range ((ysR l).length - 1)).flatMap fun k => (List.range ((xsR l).length - 1)).flatMap fun i => cellR l (xsR l) (ysR l) i k
/-- The border, as the reference adds it up. -/
def bordR (l : List R4) : Int := sumL len1 (edgesR l)

theorem lines_of {l : List R4} {n : Nat} (hl : InS n l) : Lines (inL l) n (xsR l) (ysR l) := by
  have hx : ∀ k, k ∈ xsR l ↔ k ∈ xEdges l := fun k => by unfold xsR; rw [puts_mem]; simp
  have hy : ∀ k, k ∈ ysR l ↔ k ∈ yEdges l := fun k => by unfold ysR; rw [puts_mem]; simp
  have hx2 : ∀ q ∈ l, q.l ∈ xsR l ∧ q.r ∈ xsR l := fun q hq => ⟨(hx _).2 (xEdges_mem hq).1, (hx _).2 (xEdges_mem hq).2⟩
  have hy2 : ∀ q ∈ l, q.b ∈ ysR l ∧ q.t ∈ ysR l := fun q hq => ⟨(hy _).2 (yEdges_mem hq).1, (hy _).2 (yEdges_mem hq).2⟩
  refine ⟨puts_lt _ _ List.Pairwise.nil, puts_lt _ _ List.Pairwise.nil, fun k hk => ?_, fun k hk => ?_, fun y => inL_steady_x l y _ hx2, fun y z hz => inL_out_x l y _ hx2 z hz, fun x z hz => inL_out_y l x _ hy2 z hz, fun y hy x => inL_same_y hy2 y hy x⟩
  · obtain ⟨q, hq, h2⟩ := List.mem_flatMap.1 ((hx k).1 hk)
    have := hl q hq
    simp at h2
    omega
  · obtain ⟨q, hq, h2⟩ := List.mem_flatMap.1 ((hy k).1 hk)
    have := hl q hq
    simp at h2
    omega
theorem lines_turned {l : List R4} {n : Nat} (hl : InS n l) : Lines (fun x y => inL l y x) n (ysR l) (xsR l) := by
  have h := lines_of hl
  have hx : ∀ k, k ∈ xsR l ↔ k ∈ xEdges l := fun k => by unfold xsR; rw [puts_mem]; simp
  have hy : ∀ k, k ∈ ysR l ↔ k ∈ yEdges l := fun k => by unfold ysR; rw [puts_mem]; simp
  have hx2 : ∀ q ∈ l, q.l ∈ xsR l ∧ q.r ∈ xsR l := fun q hq => ⟨(hx _).2 (xEdges_mem hq).1, (hx _).2 (xEdges_mem hq).2⟩
  have hy2 : ∀ q ∈ l, q.b ∈ ysR l ∧ q.t ∈ ysR l := fun q hq => ⟨(hy _).2 (yEdges_mem hq).1, (hy _).2 (yEdges_mem hq).2⟩
  exact ⟨h.py, h.px, h.by_, h.bx, fun y => inL_steady_y l y _ hy2, fun y z hz => h.oy y z hz, fun x z hz => h.ox x z hz, fun y hy x => inL_same_x hx2 y hy x⟩
theorem lt_succ_getD {ys : List Int} (hp : ys.Pairwise (· < ·)) {k : Nat} (hk : k + 1 < ys.length) : ys.getD k 0 < ys.getD (k + 1) 0 := by
  rw [getD_at (by omega), getD_at hk]
  exact List.pairwise_iff_getElem.1 hp k (k + 1) (by omega) hk (by omega)
theorem between_getD {ys : List Int} (hp : ys.Pairwise (· < ·)) {k : Nat} (hk : k + 1 < ys.length) (j : Int) (hj : j ∈ ys) : j ≤ ys.getD k 0 ∨ ys.getD (k + 1) 0 ≤ j := by
  obtain ⟨m, hm, rfl⟩ := List.mem_iff_getElem.1 hj
  rw [getD_at (by omega), getD_at hk]
  rw [List.pairwise_iff_getElem] at hp
  rcases Nat.lt_trichotomy m k with h | h | h
  · exact .inl (Int.le_of_lt (hp m k hm (by omega) h))
  · subst h; exact .inl (Int.le_refl _)
  · rcases Nat.lt_or_ge (k + 1) m with h2 | h2
    · exact .inr (Int.le_of_lt (hp (k + 1) m hk hm h2))
    · have : m = k + 1 := by omega
      subst this; exact .inr (Int.le_refl _)
theorem mem_getD {ys : List Int} {k : Nat} (hk : k < ys.length) : ys.getD k 0 ∈ ys := by rw [getD_at hk]; exact List.getElem_mem hk
/-- The neighbours of a cell. -/
theorem cell_low {l : List R4} {n : Nat} (hl : InS n l) (i k : Nat) (hi : i + 1 < (xsR l).length) (hk : k + 1 < (ysR l).length) : inC l (xsR l) (ysR l) i k = inL l ((xsR l).getD i 0) ((ysR l).getD k 0) ∧ inC l (xsR l) (ysR l) i ((k : Int) - 1) = inL l ((xsR l).getD i 0) ((ysR l).getD k 0 - 1) ∧
    inC l (xsR l) (ysR l) ((i : Int) - 1) k = inL l ((xsR l).getD i 0 - 1) ((ysR l).getD k 0) ∧ inC l (xsR l) (ysR l) i ((k : Int) + 1) = inL l ((xsR l).getD i 0) ((ysR l).getD (k + 1) 0) ∧ inC l (xsR l) (ysR l) ((i : Int) + 1) k = inL l ((xsR l).getD (i + 1) 0) ((ysR l).getD k 0) := by
  have h := lines_of hl
  have ht := lines_turned hl
  generalize xsR l = xs at *
  generalize ysR l = ys at *
  have hi0 : decide ((0 : Int) ≤ i) = true := decide_eq_true (by omega)
  have hk0 : decide ((0 : Int) ≤ k) = true := decide_eq_true (by omega)
  have hi1 : decide ((i : Int) + 1 < xs.length) = true := decide_eq_true (by omega)
  have hk1 : decide ((k : Int) + 1 < ys.length) = true := decide_eq_true (by omega)
  refine ⟨?_, ?_, ?_, ?_, ?_⟩
  · unfold inC; rw [hi0, hk0, hi1, hk1]; simp
  · unfold inC
    rw [hi0, hi1]
    rcases k with _ | k
    · rw [h.oy _ (ys.getD 0 0 - 1) (.inl fun j hj => by
        obtain ⟨m, hm, rfl⟩ := List.mem_iff_getElem.1 hj
        rw [getD_at (by omega)]
        have hp := List.pairwise_iff_getElem.1 h.py
        rcases Nat.eq_zero_or_pos m with rfl | h0
        · omega
        · have := hp 0 m (by omega) hm h0; omega)]
      simp
    · have e1 : ((k + 1 : Nat) : Int) - 1 = (k : Int) := by omega
      rw [e1, decide_eq_true (show (0 : Int) ≤ k by omega), decide_eq_true (show (k : Int) + 1 < ys.length by omega)]
      simp only [Int.toNat_natCast, Bool.true_and]
      have hlt := lt_succ_getD h.py (k := k) (by omega)
      exact (ht.sx (xs.getD i 0) (ys.getD k 0) (ys.getD (k + 1) 0 - 1) (mem_getD (by omega)) (by omega) fun j hj => by
        rcases between_getD h.py (k := k) (by omega) j hj with h1 | h1
        · exact .inl h1
        · exact .inr (by omega)).symm
  · unfold inC
    rw [hk0, hk1]
    rcases i with _ | i
    · rw [h.ox _ (xs.getD 0 0 - 1) (.inl fun j hj => by
        obtain ⟨m, hm, rfl⟩ := List.mem_iff_getElem.1 hj
        rw [getD_at (by omega)]
        have hp := List.pairwise_iff_getElem.1 h.px
        rcases Nat.eq_zero_or_pos m with rfl | h0
        · omega
        · have := hp 0 m (by omega) hm h0; omega)]
      simp
    · have e1 : ((i + 1 : Nat) : Int) - 1 = (i : Int) := by omega
      rw [e1, decide_eq_true (show (0 : Int) ≤ i by omega), decide_eq_true (show (i : Int) + 1 < xs.length by omega)]
      simp only [Int.toNat_natCast, Bool.true_and, Bool.and_true]
      have hlt := lt_succ_getD h.px (k := i) (by omega)
      exact (h.sx (ys.getD k 0) (xs.getD i 0) (xs.getD (i + 1) 0 - 1) (mem_getD (by omega)) (by omega) fun j hj => by
        rcases between_getD h.px (k := i) (by omega) j hj with h1 | h1
        · exact .inl h1
        · exact .inr (by omega)).symm
  · unfold inC
    rw [hi0, hi1, decide_eq_true (show (0 : Int) ≤ (k : Int) + 1 by omega), show ((k : Int) + 1).toNat = k + 1 by omega]
    by_cases h2 : k + 2 < ys.length
    · rw [decide_eq_true (show (k : Int) + 1 + 1 < ys.length by omega)]; simp
    · rw [decide_eq_false (show ¬ (k : Int) + 1 + 1 < ys.length by omega), h.oy (xs.getD i 0) (ys.getD (k + 1) 0) (.inr fun j hj => by
        obtain ⟨m, hm, rfl⟩ := List.mem_iff_getElem.1 hj
        rw [getD_at hk]
        have hp := List.pairwise_iff_getElem.1 h.py
        rcases Nat.lt_or_ge m (k + 1) with h3 | h3
        · exact Int.le_of_lt (hp m (k + 1) hm hk h3)
        · have : m = k + 1 := by omega
          subst this; exact Int.le_refl _)]
      simp
  · unfold inC
    rw [hk0, hk1, decide_eq_true (show (0 : Int) ≤ (i : Int) + 1 by omega), show ((i : Int) + 1).toNat = i + 1 by omega]
    by_cases h2 : i + 2 < xs.length
    · rw [decide_eq_true (show (i : Int) + 1 + 1 < xs.length by omega)]; simp
    · rw [decide_eq_false (show ¬ (i : Int) + 1 + 1 < xs.length by omega), h.ox (ys.getD k 0) (xs.getD (i + 1) 0) (.inr fun j hj => by
        obtain ⟨m, hm, rfl⟩ := List.mem_iff_getElem.1 hj
        rw [getD_at hi]
        have hp := List.pairwise_iff_getElem.1 h.px
        rcases Nat.lt_or_ge m (i + 1) with h3 | h3
        · exact Int.le_of_lt (hp m (i + 1) hm hi h3)
        · have : m = i + 1 := by omega
          subst this; exact Int.le_refl _)]
      simp
theorem cell_len {l : List R4} {n : Nat} (hl : InS n l) (i k : Nat) (hi : i + 1 < (xsR l).length) (hk : k + 1 < (ysR l).length) :
    sumL len1 (cellR l (xsR l) (ysR l) i k) = ((xsR l).getD (i + 1) 0 - (xsR l).getD i 0) * D1 (inL l) ((xsR l).getD i 0) ((ysR l).getD k 0) + ((xsR l).getD (i + 1) 0 - (xsR l).getD i 0) * D3 (inL l) ((xsR l).getD i 0) ((ysR l).getD (k + 1) 0 - 1) +
      (((ysR l).getD (k + 1) 0 - (ysR l).getD k 0) * D1 (fun x y => inL l y x) ((ysR l).getD k 0) ((xsR l).getD i 0) + ((ysR l).getD (k + 1) 0 - (ysR l).getD k 0) * D3 (fun x y => inL l y x) ((ysR l).getD k 0) ((xsR l).getD (i + 1) 0 - 1)) := by
  obtain ⟨h1, h2, h3, h4, h5⟩ := cell_low hl i k hi hk
  have h := lines_of hl
  have ht := lines_turned hl
  have e1 : inL l ((xsR l).getD i 0) ((ysR l).getD (k + 1) 0 - 1) = inL l ((xsR l).getD i 0) ((ysR l).getD k 0) := by
    have hlt := lt_succ_getD h.py hk
    exact ht.sx _ ((ysR l).getD k 0) ((ysR l).getD (k + 1) 0 - 1) (mem_getD (by omega)) (by omega) fun j hj => by
      rcases between_getD h.py hk j hj with h1 | h1
      · exact .inl h1
      · exact .inr (by omega)
  have e2 : inL l ((xsR l).getD (i + 1) 0 - 1) ((ysR l).getD k 0) = inL l ((xsR l).getD i 0) ((ysR l).getD k 0) := by
    have hlt := lt_succ_getD h.px hi
    exact h.sx _ ((xsR l).getD i 0) ((xsR l).getD (i + 1) 0 - 1) (mem_getD (by omega)) (by omega) fun j hj => by
      rcases between_getD h.px hi j hj with h1 | h1
      · exact .inl h1
      · exact .inr (by omega)
  have l1 := lt_succ_getD h.px hi
  have l2 := lt_succ_getD h.py hk
  unfold cellR D1 D3
  dsimp only []
  rw [h1, h2, h3, h4, h5, e1, e2, show (ysR l).getD (k + 1) 0 - 1 + 1 = (ysR l).getD (k + 1) 0 by omega, show (xsR l).getD (i + 1) 0 - 1 + 1 = (xsR l).getD (i + 1) 0 by omega]
  generalize (xsR l).getD i 0 = X at *
  generalize (xsR l).getD (i + 1) 0 = X' at *
  generalize (ysR l).getD k 0 = Y at *
  generalize (ysR l).getD (k + 1) 0 = Y' at *
  have m1 : len1 ⟨X, Y, X', Y⟩ = X' - X := by unfold len1; simp only; omega
  have m2 : len1 ⟨X', Y, X', Y'⟩ = Y' - Y := by unfold len1; simp only; omega
  have m3 : len1 ⟨X', Y', X, Y'⟩ = X' - X := by unfold len1; simp only; omega
  have m4 : len1 ⟨X, Y', X, Y⟩ = Y' - Y := by unfold len1; simp only; omega
  cases inL l X Y
  · simp [ind, sumL]
  · cases inL l X (Y - 1) <;> cases inL l X' Y <;> cases inL l X Y' <;> cases inL l (X - 1) Y <;> simp [ind, sumL, m1, m2, m3, m4] <;> omega
theorem all2_turn (F : Int → Int → Int) (n : Nat) : all2 (fun x y => F y x) n = all2 F n := by
  unfold all2
  exact sumI_swap (fun x y => F y x) n 0 n 0
/-- What the reference adds up is the border. -/
theorem bordR_true (l : List R4) (n : Nat) (hl : InS n l) : bordR l = bordT (inL l) n := by
  have hg := inL_grid hl
  have hgt : Grid (fun x y => inL l y x) n := ⟨fun x y h => by have := hg.bd y x h; omega⟩
  have h := lines_of hl
  have ht := lines_turned hl
  unfold bordR edgesR
  rw [sumL_flat, sumL_congr (h := fun k => sumL (fun i => ((xsR l).getD (i + 1) 0 - (xsR l).getD i 0) * D1 (inL l) ((xsR l).getD i 0) ((ysR l).getD k 0)) (List.range ((xsR l).length - 1)) + sumL (fun i => ((xsR l).getD (i + 1) 0 - (xsR l).getD i 0) * D3 (inL l) ((xsR l).getD i 0) ((ysR l).getD (k + 1) 0 - 1)) (List.range ((xsR l).length - 1)) +
      (sumL (fun i => ((ysR l).getD (k + 1) 0 - (ysR l).getD k 0) * D1 (fun x y => inL l y x) ((ysR l).getD k 0) ((xsR l).getD i 0)) (List.range ((xsR l).length - 1)) + sumL (fun i => ((ysR l).getD (k + 1) 0 - (ysR l).getD k 0) * D3 (fun x y => inL l y x) ((ysR l).getD k 0) ((xsR l).getD (i + 1) 0 - 1)) (List.range ((xsR l).length - 1)))) fun k hk => by
    rw [List.mem_range] at hk
    rw [sumL_flat]
    refine (sumL_congr fun i hi => cell_len hl i k (by rw [List.mem_range] at hi; omega) (by omega)).trans ?_
    rw [sumL_plus, sumL_plus, sumL_plus]]
  rw [sumL_plus, sumL_plus, sumL_plus, grid_low hg h, grid_high hg h]
  rw [sumL_swap (fun k i => ((ysR l).getD (k + 1) 0 - (ysR l).getD k 0) * D1 (fun x y => inL l y x) ((ysR l).getD k 0) ((xsR l).getD i 0)), sumL_swap (fun k i => ((ysR l).getD (k + 1) 0 - (ysR l).getD k 0) * D3 (fun x y => inL l y x) ((ysR l).getD k 0) ((xsR l).getD (i + 1) 0 - 1))]
  rw [grid_low hgt ht, grid_high hgt ht]
  rw [show D1 (fun x y => inL l y x) = fun x y => D4 (inL l) y x from rfl, show D3 (fun x y => inL l y x) = fun x y => D2 (inL l) y x from rfl, all2_turn (D4 (inL l)), all2_turn (D2 (inL l))]
  unfold bordT
  omega
end Go.Proofs.YtpcfhcdbibklcaaGreat
