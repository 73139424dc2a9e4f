/- Plain: what the reference's Faces computes is what the program's Faces computes. -/
/- Contract of the reference (layer 7): Faces. -/
/- Contract of the reference (layer 7): Faces. -/
/- Contract: Broken (keep); beside the text T, which has One. -/
/- OverlayAnswers: how rows of regions and of faces that can be read are opened; what a tape's lists are; plain parts. -/
import Derived.Test.YtabcadpfhachoaaGreatOM1
import Derived.Test.YtabcadpfhachoaaGreatHT
import Derived.Test.YtabcadpfhachoaaGreatGs
import Derived.Test.YtabcadpfhachoaaGreatT
import Derived.Test.YtabcadpfhachoaaGreatOg
namespace Go.Proofs.YtabcadpfhachoaaGreat
open Go.RowKit
set_option linter.unusedVariables false
set_option linter.unusedSimpArgs false

/-- The set of a face, with one more region. -/
def withBit (s : Int) (i : Nat) : Int := ((s.toNat ||| 2 ^ i : Nat) : Int)
def nextR (i : Nat) (U a : List R4) (F : List Fc) : List Fc := (F.flatMap fun f => [⟨f.set, combP notB f.rg a⟩, ⟨withBit f.set i, combP andB f.rg a⟩]) ++ [⟨((2 ^ i : Nat) : Int), combP notB a U⟩]
def someR (F : List Fc) : List Fc := F.filter fun f => decide (0 < f.rg.length)
def stR (m : List (List R4)) : Nat → List Fc × List R4
  | 0 => ([], [])
  | k + 1 => (someR (nextR k (stR m k).2 (m.getD k []) (stR m k).1), combP orB (stR m k).2 (m.getD k []))
structure StOk (m : List (List R4)) (k : Nat) (F : List Fc) (U : List R4) : Prop where
  up : F.Pairwise fun a b => a.set ≠ b.set
  pos : ∀ f ∈ F, 0 < f.set ∧ f.set < ((2 ^ k : Nat) : Int)
  at' : ∀ f ∈ F, Canon (fun x y => decide ((setAt (m.take k) x y : Int) = f.set)) f.rg
  ne : ∀ f ∈ F, f.rg ≠ []
  all : ∀ x y, setAt (m.take k) x y ≠ 0 → ∃ f ∈ F, f.set = setAt (m.take k) x y
  un : Canon (fun x y => decide (setAt (m.take k) x y ≠ 0)) U
theorem canon_nil : Canon (fun _ _ => false) ([] : List R4) := (canon_own (a := []) (fun q hq => by cases hq) (by rw [canonP_comb _ (fun q hq => by cases hq)]; decide)).congr fun x y => rfl
theorem or_pow (s i : Nat) (h : s < 2 ^ i) (b : Bool) : s ||| (b.toNat * 2 ^ i) = s + b.toNat * 2 ^ i := by
  cases b
  · simp
  · have := Nat.two_pow_add_eq_or_of_lt h 1
    simp only [Bool.toNat_true, Nat.one_mul, Nat.mul_one] at this ⊢
    rw [Nat.or_comm]
    omega
theorem withBit_eq (s : Int) (i : Nat) (h0 : 0 ≤ s) (h : s < ((2 ^ i : Nat) : Int)) : withBit s i = s + ((2 ^ i : Nat) : Int) := by
  unfold withBit
  have := or_pow s.toNat i (by omega) true
  simp only [Bool.toNat_true, Nat.one_mul] at this
  rw [this]
  omega
theorem setAt_next (m : List (List R4)) (i : Nat) (hi : i < m.length) (x y : Int) : setAt (m.take (i + 1)) x y = setAt (m.take i) x y + (inL (m.getD i []) x y).toNat * 2 ^ i ∧ setAt (m.take i) x y < 2 ^ i := by
  have h1 := setAt_lt (m.take i) x y
  rw [List.length_take, show min i m.length = i by omega] at h1
  refine ⟨?_, h1⟩
  rw [setAt_take m i hi, or_pow _ _ h1]
  congr 3
  simp [List.getD, List.getElem?_eq_getElem hi]
theorem canon_empty {P : Int → Int → Bool} {R : List R4} (h : Canon P R) (hR : R = []) (x y : Int) : P x y = false := by
  rw [← h.mem x y, hR]
  rfl
theorem canon_some {P : Int → Int → Bool} {R : List R4} (h : Canon P R) (hR : R ≠ []) : ∃ x y, P x y = true := by
  apply Classical.byContradiction
  intro hn
  apply hR
  refine h.uniq (canon_nil.congr fun x y => ?_)
  cases hp : P x y
  · rfl
  · exact absurd ⟨x, y, hp⟩ hn
theorem St.step {m : List (List R4)} {k : Nat} {F : List Fc} {U : List R4} (h : StOk m k F U) (hk : k < m.length) : StOk m (k + 1) (someR (nextR k U (m.getD k []) F)) (combP orB U (m.getD k [])) := by
  have hs := fun x y => setAt_next m k hk x y
  generalize m.getD k [] = a at *
  have hp2 : ((2 ^ (k + 1) : Nat) : Int) = 2 * ((2 ^ k : Nat) : Int) := by rw [Nat.pow_succ]; omega
  have hp1 : 0 < 2 ^ k := Nat.two_pow_pos k
  have hc : ∀ x y, (setAt (m.take (k + 1)) x y : Int) = (setAt (m.take k) x y : Int) + if inL a x y then ((2 ^ k : Nat) : Int) else 0 := fun x y => by
    rw [(hs x y).1]
    cases inL a x y <;> simp
  have hlt : ∀ x y, (setAt (m.take k) x y : Int) < ((2 ^ k : Nat) : Int) := fun x y => by have := (hs x y).2; omega
  generalize hP : ((2 ^ k : Nat) : Int) = P at *
  -- each face behind the round
  have hnx : ∀ g ∈ nextR k U a F, (0 < g.set ∧ g.set < 2 * P) ∧ Canon (fun x y => decide ((setAt (m.take (k + 1)) x y : Int) = g.set)) g.rg := by
    intro g hg
    unfold nextR at hg
    rcases List.mem_append.1 hg with hg | hg
    · obtain ⟨f, hf, hg⟩ := List.mem_flatMap.1 hg
      have h1 := h.pos f hf
      have h2 := h.at' f hf
      have hw := withBit_eq f.set k (by omega) h1.2
      rw [hP] at hw
      simp only [List.mem_cons, List.not_mem_nil, or_false] at hg
      rcases hg with rfl | rfl
      · refine ⟨⟨h1.1, by show f.set < 2 * P; omega⟩, (comb_canon notB rfl f.rg a).congr fun x y => ?_⟩
        rw [h2.mem x y, hc x y]
        have := hlt x y
        unfold notB
        rw [Bool.eq_iff_iff]
        cases inL a x y <;> simp <;> omega
      · refine ⟨by show 0 < withBit f.set k ∧ withBit f.set k < 2 * P; omega, (comb_canon andB rfl f.rg a).congr fun x y => ?_⟩
        show andB _ _ = decide (_ = withBit f.set k)
        rw [h2.mem x y, hc x y, hw]
        have := hlt x y
        unfold andB
        rw [Bool.eq_iff_iff]
        cases inL a x y <;> simp <;> omega
    · rw [List.mem_singleton] at hg
      subst hg
      refine ⟨by show 0 < ((2 ^ k : Nat) : Int) ∧ ((2 ^ k : Nat) : Int) < 2 * P; omega, (comb_canon notB rfl a U).congr fun x y => ?_⟩
      show notB _ _ = decide (_ = ((2 ^ k : Nat) : Int))
      rw [h.un.mem x y, hc x y, hP]
      have := hlt x y
      unfold notB
      rw [Bool.eq_iff_iff]
      cases inL a x y <;> simp <;> omega
  have hex : ∀ x y, setAt (m.take (k + 1)) x y ≠ 0 → ∃ g ∈ nextR k U a F, g.set = setAt (m.take (k + 1)) x y := by
    intro x y hne
    have h1 := hc x y
    by_cases h0 : setAt (m.take k) x y = 0
    · refine ⟨⟨((2 ^ k : Nat) : Int), combP notB a U⟩, List.mem_append_right _ (List.mem_singleton.2 rfl), ?_⟩
      show ((2 ^ k : Nat) : Int) = _
      rw [h1, hP]
      cases ha : inL a x y
      · rw [ha] at h1; simp at h1; omega
      · simp; omega
    · obtain ⟨f, hf, he⟩ := h.all x y h0
      have hw := withBit_eq f.set k (by omega) (h.pos f hf).2
      rw [hP] at hw
      cases ha : inL a x y
      · refine ⟨⟨f.set, combP notB f.rg a⟩, List.mem_append_left _ (List.mem_flatMap.2 ⟨f, hf, by simp⟩), ?_⟩
        rw [h1, ha]
        show f.set = _
        simp; omega
      · refine ⟨⟨withBit f.set k, combP andB f.rg a⟩, List.mem_append_left _ (List.mem_flatMap.2 ⟨f, hf, by simp⟩), ?_⟩
        rw [h1, ha]
        show withBit f.set k = _
        rw [hw]
        simp; omega
  refine ⟨?_, fun g hg => ?_, fun g hg => ?_, fun g hg => ?_, fun x y hne => ?_, ?_⟩
  · refine List.Pairwise.filter _ ?_
    unfold nextR
    rw [List.pairwise_append]
    refine ⟨?_, List.pairwise_singleton _ _, ?_⟩
    · rw [List.pairwise_flatMap]
      refine ⟨fun f hf => ?_, ?_⟩
      · have h1 := h.pos f hf
        have hw := withBit_eq f.set k (by omega) h1.2
        rw [hP] at hw
        simp only [List.pairwise_cons, List.mem_singleton, forall_eq, List.not_mem_nil, false_implies, implies_true, List.Pairwise.nil, and_true]
        omega
      · refine List.Pairwise.imp_of_mem ?_ h.up
        intro f g hf hg hne b hb c hc'
        have h1 := h.pos f hf
        have h2 := h.pos g hg
        have hw1 := withBit_eq f.set k (by omega) h1.2
        have hw2 := withBit_eq g.set k (by omega) h2.2
        rw [hP] at hw1 hw2
        simp only [List.mem_cons, List.not_mem_nil, or_false] at hb hc'
        rcases hb with rfl | rfl <;> rcases hc' with rfl | rfl <;> dsimp only <;> omega
    · intro b hb c hc'
      rw [List.mem_singleton] at hc'
      subst hc'
      obtain ⟨f, hf, hb⟩ := List.mem_flatMap.1 hb
      have h1 := h.pos f hf
      have hw1 := withBit_eq f.set k (by omega) h1.2
      rw [hP] at hw1
      simp only [List.mem_cons, List.not_mem_nil, or_false] at hb
      rcases hb with rfl | rfl <;> dsimp only <;> omega
  · have := (hnx g (List.mem_filter.1 hg).1).1
    omega
  · exact (hnx g (List.mem_filter.1 hg).1).2
  · intro h0
    have := (List.mem_filter.1 hg).2
    rw [h0] at this
    simp at this
  · obtain ⟨g, hg, he⟩ := hex x y hne
    refine ⟨g, List.mem_filter.2 ⟨hg, ?_⟩, he⟩
    have := (hnx g hg).2
    rw [decide_eq_true_iff]
    rcases Nat.eq_zero_or_pos g.rg.length with h0 | h0
    · have := canon_empty this (List.eq_nil_of_length_eq_zero h0) x y
      simp [he] at this
    · exact h0
  · refine (comb_canon orB rfl U a).congr fun x y => ?_
    rw [h.un.mem x y]
    have h1 := hc x y
    have h2 := hlt x y
    unfold orB
    rw [Bool.eq_iff_iff]
    cases ha : inL a x y
    · rw [ha] at h1; simp at h1 ⊢; omega
    · rw [ha] at h1; simp at h1 ⊢; omega
theorem stR_ok (m : List (List R4)) : ∀ k, k ≤ m.length → StOk m k (stR m k).1 (stR m k).2
  | 0, _ => ⟨List.Pairwise.nil, fun f h => (by cases h), fun f h => (by cases h), fun f h => (by cases h), fun x y h => absurd (by simp [setAt, maskL]) h, canon_nil.congr fun x y => (by simp [setAt, maskL])⟩
  | k + 1, h => St.step (stR_ok m k (by omega)) (by omega)
theorem stR_len (m : List (List R4)) : ∀ k, (stR m k).1.length + 1 ≤ 2 ^ k
  | 0 => by simp [stR]
  | k + 1 => by
    have h1 := stR_len m k
    have h2 : (someR (nextR k (stR m k).2 (m.getD k []) (stR m k).1)).length ≤ 2 * (stR m k).1.length + 1 := by
      refine Nat.le_trans (List.length_filter_le _ _) ?_
      unfold nextR
      rw [List.length_append]
      have : ∀ F : List Fc, (F.flatMap fun f => [(⟨f.set, combP notB f.rg (m.getD k [])⟩ : Fc), ⟨withBit f.set k, combP andB f.rg (m.getD k [])⟩]).length = 2 * F.length := by
        intro F
        induction F with
        | nil => rfl
        | cons f t ih => rw [List.flatMap_cons, List.length_append, ih]; simp; omega
      rw [this]
      simp
    rw [Nat.pow_succ]
    show (someR (nextR k (stR m k).2 (m.getD k []) (stR m k).1)).length + 1 ≤ _
    omega
theorem setAt_cut {m : List (List R4)} (y : Int) (q : Nat → Bool) : Cut (xEdges m.flatten) fun x => q (setAt m x y) := by
  intro x hx
  apply Classical.byContradiction
  intro hn
  apply hx
  dsimp only
  congr 1
  unfold setAt
  congr 1
  refine List.map_congr_left fun a ha => ?_
  apply Classical.byContradiction
  intro hd
  refine hn ?_
  have := cut_inL y a x hd
  unfold xEdges at this ⊢
  obtain ⟨r, hr, hx⟩ := List.mem_flatMap.1 this
  exact List.mem_flatMap.2 ⟨r, List.mem_flatten.2 ⟨a, ha, hr⟩, hx⟩
theorem setAt_cutY {m : List (List R4)} (x : Int) (q : Nat → Bool) : Cut (yEdges m.flatten) fun y => q (setAt m x y) := by
  intro y hx
  apply Classical.byContradiction
  intro hn
  apply hx
  dsimp only
  congr 1
  unfold setAt
  congr 1
  refine List.map_congr_left fun a ha => ?_
  apply Classical.byContradiction
  intro hd
  refine hn ?_
  have := cut_inLY x a y hd
  unfold yEdges at this ⊢
  obtain ⟨r, hr, hx⟩ := List.mem_flatMap.1 this
  exact List.mem_flatMap.2 ⟨r, List.mem_flatten.2 ⟨a, ha, hr⟩, hx⟩
theorem canon_set_len {m : List (List R4)} {q : Nat → Bool} {R : List R4} (h : Canon (fun x y => q (setAt m x y)) R) (hm : m.flatten.length ≤ 45) : R.length ≤ 4050 := by
  have := canon_cuts h (fun y => setAt_cut y q) (fun x => setAt_cutY x q)
  rw [(cut_len _).1, (cut_len _).2] at this
  have h2 : 2 * m.flatten.length * (2 * m.flatten.length / 2) ≤ 90 * 45 := Nat.mul_le_mul (by omega) (by omega)
  omega
theorem flat_take' (l : List (List R4)) (k : Nat) : (l.take k).flatten.length ≤ l.flatten.length := by
  conv => rhs; rw [← List.take_append_drop k l]
  rw [List.flatten_append, List.length_append]
  omega
theorem stR_rects {m : List (List R4)} (hm : m.flatten.length ≤ 45) (k : Nat) (hk : k ≤ m.length) : (∀ f ∈ (stR m k).1, f.rg.length ≤ 4050) ∧ (stR m k).2.length ≤ 4050 := by
  have h := stR_ok m k hk
  have h2 : (m.take k).flatten.length ≤ 45 := Nat.le_trans (flat_take' m k) hm
  exact ⟨fun f hf => canon_set_len (q := fun n => decide ((n : Int) = f.set)) (h.at' f hf) h2, canon_set_len (q := fun n => decide (n ≠ 0)) h.un h2⟩
/-- The faces of a set, of all sets below a number. -/
def selF (F : List Fc) (s : Int) : List Fc := F.filter fun f => decide (f.set = s)
def selU (F : List Fc) (k : Nat) : List Fc := (List.range k).flatMap fun (s : Nat) => selF F (s : Int)
theorem selU_succ (F : List Fc) (k : Nat) : selU F (k + 1) = selU F k ++ selF F (k : Int) := by
  unfold selU
  rw [List.range_succ, List.flatMap_append]
  simp
theorem selU_len (F : List Fc) (k : Nat) : (selU F k).length ≤ F.length := by
  have h : ∀ k, (selU F k).length = (F.filter fun f => decide (0 ≤ f.set ∧ f.set < (k : Int))).length := by
    intro k
    induction k with
    | zero =>
      rw [List.filter_eq_nil_iff.2]
      · rfl
      · intro f _ h
        simp at h
        omega
    | succ k ih =>
      rw [selU_succ, List.length_append, ih]
      clear ih
      unfold selF
      induction F with
      | nil => rfl
      | cons f t ih =>
        rw [List.filter_cons, List.filter_cons, List.filter_cons]
        by_cases h1 : f.set = (k : Int)
        · rw [if_neg (by simp; omega), if_pos (by simpa using h1), if_pos (by simp; omega)]
          simp only [List.length_cons] at ih ⊢
          omega
        · by_cases h2 : 0 ≤ f.set ∧ f.set < (k : Int)
          · rw [if_pos (by simpa using h2), if_neg (by simpa using h1), if_pos (by simp; omega)]
            simp only [List.length_cons] at ih ⊢
            omega
          · rw [if_neg (by simp at h2 ⊢; omega), if_neg (by simpa using h1), if_neg (by simp at h2 ⊢; omega)]
            exact ih
  rw [h]
  exact List.length_filter_le _ _
theorem selF_one {F : List Fc} (h : F.Pairwise fun a b => a.set ≠ b.set) {f : Fc} (hf : f ∈ F) : selF F f.set = [f] := by
  unfold selF
  induction F with
  | nil => cases hf
  | cons a t ih =>
    obtain ⟨h1, h2⟩ := List.pairwise_cons.1 h
    rw [List.filter_cons]
    rcases List.mem_cons.1 hf with rfl | hf
    · rw [if_pos (by simp), List.filter_eq_nil_iff.2]
      intro b hb he
      exact h1 b hb (by simpa using (decide_eq_true_iff.1 he).symm)
    · rw [if_neg (by simpa using h1 f hf)]
      exact ih h2 hf
theorem selF_none {F : List Fc} {s : Int} (h : ∀ f ∈ F, f.set ≠ s) : selF F s = [] := List.filter_eq_nil_iff.2 fun f hf he => h f hf (decide_eq_true_iff.1 he)
/-- A row of faces, one for each set that occurs, is sorted by going through the sets. -/
theorem sel_sorted (g : Int → Fc) {F : List Fc} : ∀ (n : Nat) (K : List Int), K.Pairwise (· < ·) → (∀ s ∈ K, 0 ≤ s ∧ s < (n : Int)) → (∀ s, 0 ≤ s → s < (n : Int) → selF F s = if s ∈ K then [g s] else []) → selU F n = K.map g
  | 0, K, h1, h2, h3 => by
    cases K with
    | nil => rfl
    | cons a t => have := h2 a (by simp); omega
  | n + 1, K, h1, h2, h3 => by
    rw [selU_succ, h3 n (by omega) (by omega)]
    by_cases hn : (n : Int) ∈ K
    · rw [if_pos hn]
      obtain ⟨K0, z, rfl⟩ : ∃ K0 z, K = K0 ++ [z] := by
        rcases List.eq_nil_or_concat K with h | ⟨a, b, h⟩
        · subst h; cases hn
        · exact ⟨a, b, by rw [h]; simp⟩
      obtain ⟨p1, p2, p3⟩ := List.pairwise_append.1 h1
      have hz : z = (n : Int) := by
        have hz := h2 z (by simp)
        rcases List.mem_append.1 hn with h | h
        · have := p3 _ h z (by simp); omega
        · simpa using (List.mem_singleton.1 h).symm
      subst hz
      have hlt : ∀ s ∈ K0, s < (n : Int) := fun s hs => p3 s hs _ (by simp)
      rw [sel_sorted g n K0 p1 (fun s hs => ⟨(h2 s (List.mem_append_left _ hs)).1, hlt s hs⟩) (fun s h4 h5 => by
        rw [h3 s h4 (by omega)]
        by_cases hs : s ∈ K0
        · rw [if_pos hs, if_pos (List.mem_append_left _ hs)]
        · rw [if_neg hs, if_neg]
          intro hc
          rcases List.mem_append.1 hc with h | h
          · exact hs h
          · have := List.mem_singleton.1 h; omega)]
      simp
    · rw [if_neg hn, List.append_nil]
      refine sel_sorted g n K h1 (fun s hs => ⟨(h2 s hs).1, ?_⟩) (fun s h4 h5 => h3 s h4 (by omega))
      have := (h2 s hs).2
      have hne : s ≠ (n : Int) := fun e => hn (e ▸ hs)
      omega
/-- What the reference makes of valid regions is what the program makes of them. -/
theorem stR_faces {m : List (List R4)} (h12 : m.length ≤ 12) (hv : m.all validP = true) : facesP m = if (stR m m.length).1.any (fun f => decide (120 < f.rg.length)) then ([], 1) else (selU (stR m m.length).1 (2 ^ m.length), 0) := by
  have hpos : ∀ a ∈ m, ∀ q ∈ a, q.l < q.r := fun a ha => ok_pos (valid_parts (List.all_eq_true.1 hv a ha)).2.1
  have h := stR_ok m m.length (Nat.le_refl _)
  have ht : m.take m.length = m := List.take_of_length_le (Nat.le_refl _)
  generalize (stR m m.length).1 = F at *
  generalize (stR m m.length).2 = U at *
  obtain ⟨up, pos, at', ne, all, _⟩ := h
  rw [ht] at at' all
  have hkey : ∀ s : Int, s ∈ keysPc (piecesP m) ↔ ∃ f ∈ F, f.set = s := by
    intro s
    rw [keysPc_mem]
    constructor
    · rintro ⟨p, hp, rfl⟩
      have h1 := pieces_pos p hp
      have h2 := (pieces_mem hpos p.2.l p.2.b p.1 h1.1).1 ⟨p, hp, rfl, by simp only [R4.has, Bool.and_eq_true, decide_eq_true_eq]; omega⟩
      obtain ⟨f, hf, he⟩ := all p.2.l p.2.b (by omega)
      exact ⟨f, hf, by omega⟩
    · rintro ⟨f, hf, rfl⟩
      obtain ⟨x, y, hxy⟩ := canon_some (at' f hf) (ne f hf)
      have hxy := of_decide_eq_true hxy
      have := pos f hf
      obtain ⟨p, hp, he, _⟩ := (pieces_mem hpos x y (setAt m x y) (by omega)).2 rfl
      exact ⟨p, hp, by omega⟩
  have hface : ∀ f ∈ F, faceOf m f.set = f := by
    intro f hf
    have h1 := pos f hf
    have hu : (faceOf m f.set).rg = f.rg := by
      refine Canon.uniq (canonP_canon _ ofPc_pos) ((at' f hf).congr fun x y => ?_)
      rw [ofPc_in hpos x y (by omega), Bool.eq_iff_iff, decide_eq_true_iff, decide_eq_true_iff]
      omega
    cases f with
    | mk s r =>
      have : faceOf m s = ⟨s, (faceOf m s).rg⟩ := rfl
      rw [this, hu]
  have hbig : (keysPc (piecesP m)).any (bigF m) = F.any (fun f => decide (120 < f.rg.length)) := by
    rw [Bool.eq_iff_iff, List.any_eq_true, List.any_eq_true]
    constructor
    · rintro ⟨s, hs, hb⟩
      obtain ⟨f, hf, rfl⟩ := (hkey s).1 hs
      refine ⟨f, hf, ?_⟩
      rw [← hface f hf]
      exact hb
    · rintro ⟨f, hf, hb⟩
      refine ⟨f.set, (hkey _).2 ⟨f, hf, rfl⟩, ?_⟩
      rw [← hface f hf] at hb
      exact hb
  rw [facesP_big (by omega) hv, hbig]
  have hsel : selU F (2 ^ m.length) = (keysPc (piecesP m)).map (faceOf m) := by
    refine sel_sorted (faceOf m) _ _ (asc_all _).1 (fun s hs => ?_) (fun s h0 h1 => ?_)
    · obtain ⟨f, hf, rfl⟩ := (hkey s).1 hs
      have := pos f hf
      omega
    · by_cases hs : s ∈ keysPc (piecesP m)
      · rw [if_pos hs]
        obtain ⟨f, hf, rfl⟩ := (hkey s).1 hs
        rw [selF_one up hf, hface f hf]
      · rw [if_neg hs]
        exact selF_none fun f hf he => hs ((hkey s).2 ⟨f, hf, he⟩)
  rw [hsel]
end Go.Proofs.YtabcadpfhachoaaGreat

namespace Go.Proofs.YtabcadpfhachoaaGreat
open Go.RowKit Go.Shelf
set_option linter.unusedVariables false
set_option linter.unusedSimpArgs false

/-- A row of structs of a number and a row of rectangles: the rectangles lie anywhere behind B0, the row itself behind base. -/
structure FtOwn (T : TypeId) (w : World) (B0 base : Nat) (v : Value) (l : FL) : Prop where
  o : w.ownsRow base T 2 v l.length (fcCells l)
  fs : ∀ x ∈ l, w.ownsRow B0 42 4 (.slice x.2.a x.1.rg.length x.2.c) x.1.rg.length (rCells x.1.rg)
  ap : ∀ x ∈ l, ∀ g, v.ownBlock = some g → (Value.slice x.2.a x.1.rg.length x.2.c).ownBlock ≠ some g
theorem FtOwn.nil (T : TypeId) (w : World) (B0 base : Nat) : FtOwn T w B0 base (.slice none 0 0) [] := ⟨World.ownsRow_nil _ _ _ _, fun _ h => by simp at h, fun _ h => by simp at h⟩
theorem FtOwn.below {T : TypeId} {w w' : World} {B0 base : Nat} {v : Value} {l : FL} (h : FtOwn T w B0 base v l) (hb : Below w.heap.size w w') : FtOwn T w' B0 base v l := ⟨ownsRow_below h.o hb, fun x hx => ownsRow_below (h.fs x hx) hb, h.ap⟩
theorem fcCells_app (a b : FL) : fcCells (a ++ b) = fcCells a ++ fcCells b := by simp [fcCells]
theorem FtOwn.pushes {T : TypeId} {w wa w5 : World} {B0 base : Nat} {v : Value} {l : FL} (h : FtOwn T w B0 base v l) (xs : FL) (hx : ∀ x ∈ xs, wa.ownsRow B0 42 4 (.slice x.2.a x.1.rg.length x.2.c) x.1.rg.length (rCells x.1.rg))
    (hxa : ∀ x ∈ xs, ∀ g, v.ownBlock = some g → (Value.slice x.2.a x.1.rg.length x.2.c).ownBlock ≠ some g) {v5 : Value}
    (ha : Below w.heap.size w wa) (hg : wa.grownBy w5 v.ownBlock) (hown : w5.ownsRow base T 2 v5 (l.length + xs.length) (fcCells l ++ fcCells xs)) (hat : v5.ownBlock = v.ownBlock ∨ v5.ownBlock = some wa.heap.size) : FtOwn T w5 B0 base v5 (l ++ xs) := by
  have hall : ∀ y ∈ l ++ xs, wa.ownsRow B0 42 4 (.slice y.2.a y.1.rg.length y.2.c) y.1.rg.length (rCells y.1.rg) ∧ ∀ g, v.ownBlock = some g → (Value.slice y.2.a y.1.rg.length y.2.c).ownBlock ≠ some g := by
    intro y hy
    rcases List.mem_append.1 hy with h1 | h1
    · exact ⟨ownsRow_below (h.fs y h1) ha, h.ap y h1⟩
    · exact ⟨hx y h1, hxa y h1⟩
  refine ⟨?_, fun y hy => own_grown (hall y hy).1 hg (fun g hg2 e => (hall y hy).2 g e hg2), fun y hy g hg2 e => ?_⟩
  · rw [List.length_append, fcCells_app]
    exact hown
  rcases hat with h0 | h0
  · exact (hall y hy).2 g (by rw [← h0]; exact hg2) e
  · rw [h0] at hg2
    injection hg2 with hg2
    have := own_lt (hall y hy).1 g e
    omega
/-- The same, to be read. -/
structure FtAt (w : World) (B0 : Nat) (v : Value) (l : FL) : Prop where
  slf : ∃ A c, v = .slice A l.length c ∧ SlF w A l.length c l
  fs : ∀ x ∈ l, w.ownsRow B0 42 4 (.slice x.2.a x.1.rg.length x.2.c) x.1.rg.length (rCells x.1.rg)
theorem FtAt.below {w w' : World} {B0 : Nat} {v : Value} {l : FL} (h : FtAt w B0 v l) (hb : Below w.heap.size w w') : FtAt w' B0 v l := by
  obtain ⟨A, c, h1, h2⟩ := h.slf
  exact ⟨⟨A, c, h1, h2.below hb⟩, fun x hx => ownsRow_below (h.fs x hx) hb⟩
theorem FtAt.nil (w : World) (B0 : Nat) : FtAt w B0 (.slice none 0 0) [] := ⟨⟨none, 0, rfl, ⟨rfl, Nat.le_refl _, Nat.zero_le _, .inl rfl, fun _ h => by simp at h⟩⟩, fun _ h => by simp at h⟩
theorem FtOwn.at' {T : TypeId} {w : World} {B0 base : Nat} {v : Value} {l : FL} (h : FtOwn T w B0 base v l) : FtAt w B0 v l := by
  obtain ⟨A, c, e, h1, h2, h3⟩ := own_slice h.o
  refine ⟨⟨A, c, e, ⟨rfl, h2, h3, h1, fun x hx => ?_⟩⟩, h.fs⟩
  obtain ⟨A2, c2, e, h4⟩ := SlR.of_own (h.fs x hx)
  injection e with e1 e2 e3
  rw [e1, e3]
  exact h4
theorem FtOwn.own {w : World} {base : Nat} {v : Value} {l : FL} (h : FtOwn 36 w base base v l) : FsOwn w base v l := ⟨h.o, h.fs, h.ap⟩
theorem FtOwn.rebase {T : TypeId} {w : World} {B0 base base' : Nat} {v : Value} {l : FL} (h : FtOwn T w B0 base v l) (hb : base' ≤ base) : FtOwn T w B0 base' v l := ⟨own_rebase h.o hb, h.fs, h.ap⟩
theorem Tryz.infoFt : (Tryz.prog.info? 77).map (fun i => (i.zero, i.size, i.bytes)) = some (some (.agg #[.int .i64 0, .slice none 0 0]), 2, 32) := by kernel_rfl
def twoR (i : Nat) (a : List R4) (F : List Fc) : List Fc := F.flatMap fun f => [⟨f.set, combP notB f.rg a⟩, ⟨withBit f.set i, combP andB f.rg a⟩]
theorem twoR_len (i : Nat) (a : List R4) (F : List Fc) : (twoR i a F).length = 2 * F.length := by
  unfold twoR
  induction F with
  | nil => rfl
  | cons f t ih => rw [List.flatMap_cons, List.length_append, ih]; simp; omega
theorem nextR_two (i : Nat) (U a : List R4) (F : List Fc) : nextR i U a F = twoR i a F ++ [⟨((2 ^ i : Nat) : Int), combP notB a U⟩] := rfl
theorem twoR_snoc (i : Nat) (a : List R4) (F : List Fc) (f : Fc) : twoR i a (F ++ [f]) = twoR i a F ++ [⟨f.set, combP notB f.rg a⟩, ⟨withBit f.set i, combP andB f.rg a⟩] := by simp [twoR]
theorem someR_snoc (F : List Fc) (f : Fc) : someR (F ++ [f]) = if 0 < f.rg.length then someR F ++ [f] else someR F := by
  unfold someR
  rw [List.filter_append, List.filter_cons]
  by_cases h : 0 < f.rg.length <;> simp [h]
theorem fcs_len (l : FL) : (fcs l).length = l.length := by simp [fcs]
theorem or_withBit (z : Int) (k : Nat) (h0 : 0 ≤ z) (hz : z < ((2 ^ 13 : Nat) : Int)) (hk : k ≤ 12) : bits BinOp.or IntKind.i64 z (wrap64 ((2 : Int) ^ k)) = withBit z k := by
  obtain ⟨m, rfl⟩ := Int.eq_ofNat_of_zero_le h0
  rw [or_shl m k (by have : (2 : Nat) ^ 13 ≤ 2 ^ 62 := Nat.pow_le_pow_right (by omega) (by omega); omega) (by omega)]
  unfold withBit
  simp
end Go.Proofs.YtabcadpfhachoaaGreat

namespace Go.Proofs.YtabcadpfhachoaaGreat
open Go.RowKit Go.Shelf
set_option linter.unusedVariables false
set_option linter.unusedSimpArgs false

set_option maxHeartbeats 32000000 in
set_option maxRecDepth 100000 in
theorem facesR_any (A : Option Addr) (n c : Nat) (l : RL) (w : World) (hA : SlG w A n c l) (hs : (rgs l).flatten.length ≤ 45) : Calls Tryz.prog 14 #[.slice A n c] w (FcPost w (facesP (rgs l))) := by
  obtain ⟨i0, hi, hz0, hz1, hz2⟩ := info_parts Tryz.infoFt
  obtain ⟨j0, hjj, hy0, hy1, hy2⟩ := info_parts Tryz.infoFace
  have HA := Lib.hid hA
  have Hlen : Hid ((rgs l).length = n) := Lib.hid (by rw [rgs_len]; exact hA.len)
  have HS := Lib.hid hs
  have Hm : Hid (12 < n → facesP (rgs l) = ([], 1)) := Lib.hid (fun h => by unfold facesP; rw [if_pos (by rw [Hlen.out]; exact h)])
  have Hbad : Hid (n ≤ 12 → (rgs l).all validP = false → facesP (rgs l) = ([], 7)) := Lib.hid (fun h hv => by unfold facesP; rw [if_neg (by rw [Hlen.out]; omega), if_neg (by rw [hv]; simp)])
  have Hgood : Hid (n ≤ 12 → (rgs l).all validP = true → facesP (rgs l) = if (stR (rgs l) n).1.any (fun f => decide (120 < f.rg.length)) then ([], 1) else (selU (stR (rgs l) n).1 (2 ^ n), 0)) := Lib.hid (fun h hv => by have := stR_faces (by rw [Hlen.out]; exact h) hv; rwa [Hlen.out] at this)
  generalize facesP (rgs l) = res at *
  clear hA hs
  go_enter Tryz.func14, Tryz.ntmps14
  by_cases h12 : 12 < n
  · have h12' : (12 : Int) < (n : Int) := by omega
    have Hr := Lib.hid (Hm.out h12)
    go_wp2
    go_ret2
    rw [Hr.out]
    exact ⟨[], _, rfl, FsOwn.nil _ _, rfl, Below.refl _ _⟩
  have h12' : ¬ (12 : Int) < (n : Int) := by omega
  have Hbad0 := Lib.hid (Hbad.out (by omega))
  have Hgood0 := Lib.hid (Hgood.out (by omega))
  clear Hm Hbad Hgood
  go_upto_region 4 with fail
  go_loopw [26] (fun iv wr => ∃ k : Nat, iv = .int .i64 (k : Int) ∧ k ≤ n ∧ Hid (((rgs l).take k).all validP = true) ∧ Below w.heap.size w wr) (fun iv _ => n - (intOf iv).toNat)
  case atStart => exact ⟨0, rfl, by omega, Lib.hid rfl, Below.refl _ _⟩
  case round =>
    obtain ⟨k, rfl, hkn, Hall, hbr⟩ := hrel
    have Hbr := Lib.hid hbr
    have hsr := hbr.size
    clear hbr
    by_cases hk : k < n
    · have hk' : (k : Int) < (n : Int) := by omega
      have hkl : k < l.length := by have := HA.out.len; omega
      obtain ⟨b, off, rfl, hb, c0, hsl⟩ := (HA.out.below Hbr.out).at k hkl
      have hg : (rgs l)[k]'(by rw [Hlen.out]; exact hk) = l[k].1 := by simp [rgs]
      have Hnx : Hid (((rgs l).take (k + 1)).all validP = validP l[k].1) := Lib.hid (by rw [List.take_succ_eq_append_getElem (by rw [Hlen.out]; exact hk), List.all_append, Hall.out, hg]; simp)
      have Hno : Hid (validP l[k].1 = false → res = ([], 7)) := Lib.hid (fun h => by
        refine Hbad0.out ?_
        rw [List.all_eq_false]
        exact ⟨_, List.getElem_mem (by rw [Hlen.out]; exact hk), by rw [hg, h]; simp⟩)
      have Hv := Lib.hid (fun W hW => validR_any _ _ _ _ W (hsl.below hW))
      obtain ⟨D, hD⟩ : ∃ D, l[k].2.a = D := ⟨_, rfl⟩
      obtain ⟨q, hq⟩ : ∃ q, l[k].1.length = q := ⟨_, rfl⟩
      obtain ⟨d, hd⟩ : ∃ d, l[k].2.c = d := ⟨_, rfl⟩
      obtain ⟨v, hv⟩ : ∃ v, validP l[k].1 = v := ⟨_, rfl⟩
      rw [hD, hq, hd, hv] at Hv
      rw [hD, hq, hd] at c0
      rw [hv] at Hnx Hno
      clear hg hD hq hd hv hsl
      cases v
      · have Hr := Lib.hid (Hno.out rfl)
        go_wp2_with (first
          | (go_at_call 37
             refine (Hv.out _ ((Below.refl _ _).alloc (Nat.le_refl _) _)).mono ?_
             rintro e w5 ⟨rfl, hb5⟩
             have Hb5 : Hid (Below wr.heap.size wr w5) := Lib.hid (show Below wr.heap.size wr w5 from (by have hbq := hb5; exact (by repeat' (first | with_reducible exact Below.refl _ _ | with_reducible assumption | with_reducible refine below_drewN ?_ _ | with_reducible refine Below.drew ?_ | with_reducible refine Below.alloc ?_ ?_ _ | with_reducible refine Below.setCell ?_ ?_ _ | with_reducible refine Below.trans ?_ (Below.mono (by with_reducible assumption) ?_) | with_reducible refine below_only ?_ (by with_reducible assumption) ?_ ?_ | (simp; done) | (simp; omega) | omega))))
             clear hb5)
          | fail)
        go_ret2
        rw [Hr.out]
        exact ⟨[], _, rfl, FsOwn.nil _ _, rfl, Hbr.out.trans (Hb5.out.mono hsr)⟩
      · go_wp2_with (first
          | (go_at_call 37
             refine (Hv.out _ ((Below.refl _ _).alloc (Nat.le_refl _) _)).mono ?_
             rintro e w5 ⟨rfl, hb5⟩
             have Hb5 : Hid (Below wr.heap.size wr w5) := Lib.hid (show Below wr.heap.size wr w5 from (by have hbq := hb5; exact (by repeat' (first | with_reducible exact Below.refl _ _ | with_reducible assumption | with_reducible refine below_drewN ?_ _ | with_reducible refine Below.drew ?_ | with_reducible refine Below.alloc ?_ ?_ _ | with_reducible refine Below.setCell ?_ ?_ _ | with_reducible refine Below.trans ?_ (Below.mono (by with_reducible assumption) ?_) | with_reducible refine below_only ?_ (by with_reducible assumption) ?_ ?_ | (simp; done) | (simp; omega) | omega))))
             clear hb5)
          | fail)
        go_roundw
        case rel => exact ⟨k + 1, by go_num, by omega, Lib.hid Hnx.out, Hbr.out.trans (Hb5.out.mono hsr)⟩
        case measure => simp [intOf]; omega
    · obtain rfl : k = n := by omega
      have hall := Hall.out
      rw [List.take_of_length_le (by rw [Hlen.out]; exact Nat.le_refl _)] at hall
      have Hres : Hid (res = if (stR (rgs l) k).1.any (fun f => decide (120 < f.rg.length)) then ([], 1) else (selU (stR (rgs l) k).1 (2 ^ k), 0)) := Lib.hid (Hgood0.out hall)
      have Hb0 := Lib.hid Hbr.out
      clear Hall Hbad0 Hgood0 hall Hbr hkn hk
      obtain ⟨n, rfl⟩ : ∃ n : Nat, n = k := ⟨_, rfl⟩
      obtain ⟨w1, rfl⟩ : ∃ w1 : World, w1 = wr := ⟨_, rfl⟩
      go_upto_region 12 with fail
      go_loopw [6, 7, 36] (fun fv uv iv wr => ∃ (k : Nat) (L : FL) (UA : Option Addr) (uc : Nat), iv = .int .i64 (k : Int) ∧ k ≤ n ∧ FtAt wr w.heap.size fv L ∧ Hid (fcs L = (stR (rgs l) k).1) ∧ uv = .slice UA (stR (rgs l) k).2.length uc ∧ SlR wr UA (stR (rgs l) k).2.length uc (stR (rgs l) k).2 ∧ Below w.heap.size w wr) (fun _ _ iv _ => n - (intOf iv).toNat)
      case atStart => exact ⟨0, [], none, 0, rfl, by omega, FtAt.nil _ _, Lib.hid rfl, rfl, SlR.nil _, Hb0.out⟩
      case round =>
        obtain ⟨k, L, UA, uc, rfl, hkn, hF, HL, rfl, hU, hbo⟩ := hrel
        obtain ⟨LA, lc, rfl, hSL⟩ := hF.slf
        have HF := Lib.hid hF
        have HSL := Lib.hid hSL
        have HU := Lib.hid hU
        have Hbo := Lib.hid hbo
        have hso := hbo.size
        clear hF hSL hU hbo
        obtain ⟨wo, rfl⟩ : ∃ wo : World, wo = wr := ⟨_, rfl⟩
        have Hsm := Lib.hid (stR_rects HS.out k (by rw [Hlen.out]; exact hkn))
        have hln := stR_len (rgs l) k
        have Hok := Lib.hid (stR_ok (rgs l) k (by rw [Hlen.out]; exact hkn))
        have hlnL : L.length = (stR (rgs l) k).1.length := by rw [← HL.out, fcs_len]
        have h2k : 2 ^ k ≤ 2 ^ 12 := Nat.pow_le_pow_right (by omega) (by omega)
        have hLb : L.length ≤ 4096 := by omega
        by_cases hk : k < n
        · have hk' : (k : Int) < (n : Int) := by omega
          have hkl : k < l.length := by have := HA.out.len; omega
          obtain ⟨b, off, rfl, hb, c0, hsl⟩ := (HA.out.below Hbo.out).at k hkl
          have hga : (rgs l).getD k [] = l[k].1 := by simp [rgs, List.getD, List.getElem?_eq_getElem hkl]
          have hal : l[k].1.length ≤ 45 := by
            have h1 := HS.out
            have h2 : l[k].1.length ≤ (rgs l).flatten.length := List.Sublist.length_le (List.sublist_flatten_of_mem (List.mem_map.2 ⟨l[k], List.getElem_mem hkl, rfl⟩))
            omega
          obtain ⟨a, ha⟩ : ∃ a, l[k].1 = a := ⟨_, rfl⟩
          obtain ⟨D, hD⟩ : ∃ D, l[k].2.a = D := ⟨_, rfl⟩
          obtain ⟨d, hd⟩ : ∃ d, l[k].2.c = d := ⟨_, rfl⟩
          rw [ha] at hga hal
          rw [ha, hD, hd] at c0 hsl
          have Hst : Hid (stR (rgs l) (k + 1) = (someR (nextR k (stR (rgs l) k).2 a (stR (rgs l) k).1), combP orB (stR (rgs l) k).2 a)) := Lib.hid (by rw [← hga]; rfl)
          have Hsl := Lib.hid hsl
          obtain ⟨q, hq⟩ : ∃ q, a.length = q := ⟨_, rfl⟩
          rw [hq] at c0 Hsl hal
          clear hga ha hD hd hq hsl
          obtain ⟨F, hFe⟩ : ∃ F, (stR (rgs l) k).1 = F := ⟨_, rfl⟩
          obtain ⟨U, hUe⟩ : ∃ U, (stR (rgs l) k).2 = U := ⟨_, rfl⟩
          rw [hFe, hUe] at Hst Hsm Hok
          rw [hUe] at HU ⊢
          rw [hFe] at HL hlnL hln
          clear hFe hUe
          obtain ⟨un, hun⟩ : ∃ un, U.length = un := ⟨_, rfl⟩
          rw [hun] at HU ⊢
          have hun4 : un ≤ 4050 := by rw [← hun]; exact Hsm.out.2
          obtain ⟨ln, hlN⟩ : ∃ ln, L.length = ln := ⟨_, rfl⟩
          rw [hlN] at HSL hLb ⊢
          have HlN := Lib.hid hlN
          have Hun := Lib.hid hun
          clear hlN hun hlnL hln
          have ek : IntKind.i64.wrap (k : Int) = (k : Int) := IntWalk.i64_in _ (by omega)
          have hk0 : 0 ≤ (k : Int) := by omega
          go_upto_region 16 with fail
          have Hr8 : Hid ((wo.alloc (.cells #[.slice D q d] 34)).heap[wo.heap.size]? = some (.cells #[.slice D q d] 34 (0, 0))) := Lib.hid (heap_alloc_new wo _)
          have Hb8 : Hid (Below wo.heap.size wo (wo.alloc (.cells #[.slice D q d] 34))) := Lib.hid ((Below.refl _ _).alloc (Nat.le_refl _) _)
          have hs8 : wo.heap.size < (wo.alloc (.cells #[.slice D q d] 34)).heap.size := by simp
          generalize wo.alloc (.cells #[.slice D q d] 34) = w8 at *
          obtain ⟨P1, hP1⟩ : ∃ P, wo.heap.size = P := ⟨_, rfl⟩
          rw [hP1] at Hr8 hs8 ⊢
          have hP1w : w.heap.size ≤ P1 := by omega
          have HF8 := Lib.hid (HF.out.below Hb8.out)
          have HSL8 := Lib.hid (HSL.out.below Hb8.out)
          have Hsl8 := Lib.hid (Hsl.out.below Hb8.out)
          have HU8 := Lib.hid (HU.out.below Hb8.out)
          have Hbw8 : Hid (Below w.heap.size w w8) := Lib.hid (Hbo.out.trans (Hb8.out.mono hso))
          have hw8 : w.heap.size < w8.heap.size := by omega
          clear HF HSL Hsl HU Hb8 Hbo hso hb c0
          go_loopw [10, 43] (fun nv jv wr => ∃ (j : Nat) (X : FL), jv = .int .i64 (j : Int) ∧ j ≤ ln ∧ FtOwn 77 wr w.heap.size w8.heap.size nv X ∧ Hid (fcs X = twoR k a (F.take j)) ∧ Below w8.heap.size w8 wr) (fun _ jv _ => ln - (intOf jv).toNat)
          case atStart => exact ⟨0, [], rfl, by omega, FtOwn.nil _ _ _ _, Lib.hid rfl, Below.refl _ _⟩
          case round =>
            obtain ⟨j, X, rfl, hjn, hX, HX, hbr⟩ := hrel
            have Hbr := Lib.hid hbr
            have hsr := hbr.size
            obtain ⟨XA, xc, rfl, _, _, _⟩ := own_slice hX.o
            have HXo := Lib.hid hX
            have hXl : X.length = 2 * j := by
              have := congrArg List.length HX.out
              rw [fcs_len, twoR_len, List.length_take] at this
              have := HlN.out
              have : F.length = ln := by rw [← HL.out, fcs_len]; exact this
              omega
            rw [hXl] at hX ⊢
            have Hown := Lib.hid hX.o
            rw [hXl] at Hown
            have HXl := Lib.hid hXl
            clear hX hbr hXl
            by_cases hj : j < ln
            · have hj' : (j : Int) < (ln : Int) := by omega
              have hjL : j < L.length := by rw [HlN.out]; exact hj
              obtain ⟨b2, off2, rfl, hb2, x0, x1, hf2⟩ := (HSL8.out.below Hbr.out).at j hjL
              have hFl : F.length = ln := by rw [← HL.out, fcs_len]; exact HlN.out
              have hFj : F[j]'(by omega) = L[j].1 := by simp [← HL.out, fcs]
              have Hnx : Hid (twoR k a (F.take (j + 1)) = twoR k a (F.take j) ++ [⟨L[j].1.set, combP notB L[j].1.rg a⟩, ⟨withBit L[j].1.set k, combP andB L[j].1.rg a⟩]) := Lib.hid (by
                rw [List.take_succ_eq_append_getElem (by omega), twoR_snoc, hFj])
              have hpos := Hok.out.pos _ (List.getElem_mem (by omega : j < F.length))
              rw [hFj] at hpos
              have hrl := Hsm.out.1 _ (List.getElem_mem (by omega : j < F.length))
              rw [hFj] at hrl
              clear hFl hFj
              obtain ⟨z, hz⟩ : ∃ z, L[j].1.set = z := ⟨_, rfl⟩
              obtain ⟨rg, hrg⟩ : ∃ rg, L[j].1.rg = rg := ⟨_, rfl⟩
              obtain ⟨E, hE⟩ : ∃ E, L[j].2.a = E := ⟨_, rfl⟩
              obtain ⟨ec, hec⟩ : ∃ ec, L[j].2.c = ec := ⟨_, rfl⟩
              rw [hz, hrg] at Hnx
              rw [hz] at hpos x0
              rw [hrg] at hrl
              rw [hrg, hE, hec] at x1 hf2
              obtain ⟨rn, hrn⟩ : ∃ rn, rg.length = rn := ⟨_, rfl⟩
              rw [hrn] at x1 hf2 hrl
              have Hc3 := Lib.hid (fun W (hW : Below wr.heap.size wr W) => combineR_any E D rn ec q d rg a 3 W (hf2.below hW) ((Hsl8.out.below Hbr.out).below hW) (by omega))
              have Hc2 := Lib.hid (fun W (hW : Below wr.heap.size wr W) => combineR_any E D rn ec q d rg a 2 W (hf2.below hW) ((Hsl8.out.below Hbr.out).below hW) (by omega))
              rw [howR3] at Hc3
              rw [show howR 2 = andB from howR2] at Hc2
              have hor := or_withBit z k (by omega) (by have : (2 : Nat) ^ k ≤ 2 ^ 13 := Nat.pow_le_pow_right (by omega) (by omega); omega) (by omega)
              obtain ⟨zb, hzb⟩ : ∃ zb, withBit z k = zb := ⟨_, rfl⟩
              rw [hzb] at Hnx hor
              have hor' : bits BinOp.or IntKind.i64 z (IntKind.i64.wrap (2 ^ k)) = zb := by rw [IntWalk.i64_left]; exact hor
              clear hz hrg hE hec hrn hf2 hzb
              go_upto_region 18 with fail
              have Hrow : Hid ((wr.alloc (.cells #[.int .i64 z, .slice E rn ec] 77)).heap[wr.heap.size]? = some (.cells #[.int .i64 z, .slice E rn ec] 77 (0, 0))) := Lib.hid (heap_alloc_new wr _)
              have Hb9 : Hid (Below wr.heap.size wr (wr.alloc (.cells #[.int .i64 z, .slice E rn ec] 77))) := Lib.hid ((Below.refl _ _).alloc (Nat.le_refl _) _)
              have hs9 : wr.heap.size < (wr.alloc (.cells #[.int .i64 z, .slice E rn ec] 77)).heap.size := by simp
              generalize wr.alloc (.cells #[.int .i64 z, .slice E rn ec] 77) = w9 at *
              have Hown9 := Lib.hid (ownsRow_below Hown.out Hb9.out)
              have Hr1 : Hid (w9.heap[P1]? = some (.cells #[.slice D q d] 34 (0, 0))) := Lib.hid ((Hb9.out.block _ (by omega)).trans ((Hbr.out.block _ hs8).trans Hr8.out))
              obtain ⟨P0, hP0⟩ : ∃ P, wr.heap.size = P := ⟨_, rfl⟩
              rw [hP0] at Hrow hs9 ⊢
              have hP0w : w8.heap.size ≤ P0 := by omega
              have hP1s : P1 < w9.heap.size := by omega
              refine wp_region_held (S := fun w' => w'.cell? ⟨P0, 0, none⟩ = some (.int .i64 z) ∧ w'.cell? ⟨P0, 1, none⟩ = some (.slice E rn ec) ∧ w'.cell? ⟨P1, 0, none⟩ = some (.slice D q d)) (by kernel_rfl) ?_
              change wpAnyH _ _ _ _ _ 23 #[false, false, false, false, false, false, false, false, false, false, false, false, false, false, false, false, false, false, false, false, false, false, false] _ w9.drew
              have y0 := cell_of_row _ _ 0 _ _ _ Hrow.out
              have y1 := cell_of_row _ _ 1 _ _ _ Hrow.out
              have y2 := cell_of_row _ _ 0 _ _ _ Hr1.out
              have hHeld : (fun w' : World => w'.cell? ⟨P0, 0, none⟩ = some (.int .i64 z) ∧ w'.cell? ⟨P0, 1, none⟩ = some (.slice E rn ec) ∧ w'.cell? ⟨P1, 0, none⟩ = some (.slice D q d)) w9.drew := ⟨y0, y1, y2⟩
              obtain ⟨wa, hwa⟩ : ∃ wa : World, wa = w9.drew := ⟨_, rfl⟩
              have Hrowa : Hid (wa.heap[P0]? = some (.cells #[.int .i64 z, .slice E rn ec] 77 (0, 0))) := Lib.hid (by rw [hwa]; exact Hrow.out)
              have Hr1a : Hid (wa.heap[P1]? = some (.cells #[.slice D q d] 34 (0, 0))) := Lib.hid (by rw [hwa]; exact Hr1.out)
              have Hba : Hid (Below wr.heap.size wr wa) := Lib.hid (by rw [hwa]; exact Hb9.out.drew)
              have Howna : Hid (wa.ownsRow w8.heap.size 77 2 (.slice XA (2 * j) xc) (2 * j) (fcCells X)) := Lib.hid (by rw [hwa]; exact Hown9.out)
              have hsa : P0 < wa.heap.size := by rw [hwa]; exact hs9
              rw [← hwa] at hHeld ⊢
              clear hwa y0 y1 y2 Hrow Hb9 Hown9 hs9 Hr1 hP1s
              refine wpAnyH_take (i := 0) (v := ?vva0) rfl (by kernel_rfl) (by kernel_rfl) (by kernel_rfl) (fun _ _ _ h => h) (Or.inl ⟨by rfl, ?hya0⟩) hHeld ?resta0; (case hya0 => (intro w hSw; (try dsimp only at hSw); go_simp; all_goals (with_reducible rfl))); simp only [Act.put, List.getElem_toArray, List.getElem_cons_zero, List.getElem_cons_succ, List.setIfInBounds_toArray, List.set_cons_zero, List.set_cons_succ]
              refine wpAnyH_take (i := 1) (v := ?vva1) rfl (by kernel_rfl) (by kernel_rfl) (by kernel_rfl) (fun _ _ _ h => h) (Or.inl ⟨by rfl, ?hya1⟩) hHeld ?resta1; (case hya1 => (intro w hSw; (try dsimp only at hSw); go_simp; all_goals (with_reducible rfl))); simp only [Act.put, List.getElem_toArray, List.getElem_cons_zero, List.getElem_cons_succ, List.setIfInBounds_toArray, List.set_cons_zero, List.set_cons_succ]
              refine wpAnyH_take (i := 2) (v := ?vva2) rfl (by kernel_rfl) (by kernel_rfl) (by kernel_rfl) (fun _ _ _ h => h) (Or.inl ⟨by rfl, ?hya2⟩) hHeld ?resta2; (case hya2 => (intro w hSw; (try dsimp only at hSw); go_simp; all_goals (with_reducible rfl))); simp only [Act.put, List.getElem_toArray, List.getElem_cons_zero, List.getElem_cons_succ, List.setIfInBounds_toArray, List.set_cons_zero, List.set_cons_succ]
              refine wpAnyH_take (i := 3) (v := ?vva3) rfl (by kernel_rfl) (by kernel_rfl) (by kernel_rfl) (fun _ _ _ h => h) (Or.inl ⟨by rfl, ?hya3⟩) hHeld ?resta3; (case hya3 => (intro w hSw; (try dsimp only at hSw); go_simp; all_goals (with_reducible rfl))); simp only [Act.put, List.getElem_toArray, List.getElem_cons_zero, List.getElem_cons_succ, List.setIfInBounds_toArray, List.set_cons_zero, List.set_cons_succ]
              refine wpAnyH_take (i := 4) (v := ?vva4) rfl (by kernel_rfl) (by kernel_rfl) (by kernel_rfl) (fun _ _ _ h => h) (Or.inl ⟨by rfl, ?hya4⟩) hHeld ?resta4; (case hya4 => (intro w hSw; (try dsimp only at hSw); go_simp; all_goals (with_reducible rfl))); simp only [Act.put, List.getElem_toArray, List.getElem_cons_zero, List.getElem_cons_succ, List.setIfInBounds_toArray, List.set_cons_zero, List.set_cons_succ]
              refine wpAnyH_take (i := 5) (v := ?vva5) rfl (by kernel_rfl) (by kernel_rfl) (by kernel_rfl) (fun _ _ _ h => h) (Or.inl ⟨by rfl, ?hya5⟩) hHeld ?resta5; (case hya5 => (intro w hSw; (try dsimp only at hSw); go_simp; all_goals (with_reducible rfl))); simp only [Act.put, List.getElem_toArray, List.getElem_cons_zero, List.getElem_cons_succ, List.setIfInBounds_toArray, List.set_cons_zero, List.set_cons_succ]
              refine wpAnyH_take (i := 6) (v := ?vva6) rfl (by kernel_rfl) (by kernel_rfl) (by kernel_rfl) (fun _ _ _ h => h) (Or.inl ⟨by rfl, ?hya6⟩) hHeld ?resta6; (case hya6 => (intro w hSw; (try dsimp only at hSw); go_simp; all_goals (with_reducible rfl))); simp only [Act.put, List.getElem_toArray, List.getElem_cons_zero, List.getElem_cons_succ, List.setIfInBounds_toArray, List.set_cons_zero, List.set_cons_succ]
              refine wpAnyH_take (i := 9) (v := ?vva9) rfl (by kernel_rfl) (by kernel_rfl) (by kernel_rfl) (fun _ _ _ h => h) (Or.inl ⟨by rfl, ?hya9⟩) hHeld ?resta9; (case hya9 => (intro w hSw; (try dsimp only at hSw); go_simp; all_goals (with_reducible rfl))); simp only [Act.put, List.getElem_toArray, List.getElem_cons_zero, List.getElem_cons_succ, List.setIfInBounds_toArray, List.set_cons_zero, List.set_cons_succ]
              refine wpAnyH_take (i := 10) (v := ?vva10) rfl (by kernel_rfl) (by kernel_rfl) (by kernel_rfl) (fun _ _ _ h => h) (Or.inl ⟨by rfl, ?hya10⟩) hHeld ?resta10; (case hya10 => (intro w hSw; (try dsimp only at hSw); go_simp; all_goals (with_reducible rfl))); simp only [Act.put, List.getElem_toArray, List.getElem_cons_zero, List.getElem_cons_succ, List.setIfInBounds_toArray, List.set_cons_zero, List.set_cons_succ]
              refine wpAnyH_take (i := 11) (v := ?vva11) rfl (by kernel_rfl) (by kernel_rfl) (by kernel_rfl) (fun _ _ _ h => h) (Or.inl ⟨by rfl, ?hya11⟩) hHeld ?resta11; (case hya11 => (intro w hSw; (try dsimp only at hSw); go_simp; all_goals (with_reducible rfl))); simp only [Act.put, List.getElem_toArray, List.getElem_cons_zero, List.getElem_cons_succ, List.setIfInBounds_toArray, List.set_cons_zero, List.set_cons_succ]
              refine wpAnyH_take (i := 12) (v := ?vva12) rfl (by kernel_rfl) (by kernel_rfl) (by kernel_rfl) (fun _ _ _ h => h) (Or.inl ⟨by rfl, ?hya12⟩) hHeld ?resta12; (case hya12 => (intro w hSw; (try dsimp only at hSw); go_simp; all_goals (with_reducible rfl))); simp only [Act.put, List.getElem_toArray, List.getElem_cons_zero, List.getElem_cons_succ, List.setIfInBounds_toArray, List.set_cons_zero, List.set_cons_succ]
              refine wpAnyH_take (i := 13) (v := ?vva13) rfl (by kernel_rfl) (by kernel_rfl) (by kernel_rfl) (fun _ _ _ h => h) (Or.inl ⟨by rfl, ?hya13⟩) hHeld ?resta13; (case hya13 => (intro w hSw; (try dsimp only at hSw); go_simp; all_goals (with_reducible rfl))); simp only [Act.put, List.getElem_toArray, List.getElem_cons_zero, List.getElem_cons_succ, List.setIfInBounds_toArray, List.set_cons_zero, List.set_cons_succ]
              refine wpAnyH_take (i := 14) (v := ?vva14) rfl (by kernel_rfl) (by kernel_rfl) (by kernel_rfl) (fun _ _ _ h => h) (Or.inl ⟨by rfl, ?hya14⟩) hHeld ?resta14; (case hya14 => (intro w hSw; (try dsimp only at hSw); go_simp; all_goals (with_reducible rfl))); simp only [Act.put, List.getElem_toArray, List.getElem_cons_zero, List.getElem_cons_succ, List.setIfInBounds_toArray, List.set_cons_zero, List.set_cons_succ]
              refine wpAnyH_take (i := 15) (v := ?vva15) rfl (by kernel_rfl) (by kernel_rfl) (by kernel_rfl) (fun _ _ _ h => h) (Or.inl ⟨by rfl, ?hya15⟩) hHeld ?resta15; (case hya15 => (intro w hSw; (try dsimp only at hSw); go_simp; all_goals (with_reducible rfl))); simp only [Act.put, List.getElem_toArray, List.getElem_cons_zero, List.getElem_cons_succ, List.setIfInBounds_toArray, List.set_cons_zero, List.set_cons_succ]
              refine wpAnyH_take (i := 16) (v := ?vva16) rfl (by kernel_rfl) (by kernel_rfl) (by kernel_rfl) (fun _ _ _ h => h) (Or.inl ⟨by rfl, ?hya16⟩) hHeld ?resta16; (case hya16 => (intro w hSw; (try dsimp only at hSw); go_simp; all_goals (with_reducible rfl))); simp only [Act.put, List.getElem_toArray, List.getElem_cons_zero, List.getElem_cons_succ, List.setIfInBounds_toArray, List.set_cons_zero, List.set_cons_succ]
              refine wpAnyH_take (i := 17) (v := ?vva17) rfl (by kernel_rfl) (by kernel_rfl) (by kernel_rfl) (fun _ _ _ h => h) (Or.inl ⟨by rfl, ?hya17⟩) hHeld ?resta17; (case hya17 => (intro w hSw; (try dsimp only at hSw); go_simp; all_goals (with_reducible rfl))); simp only [Act.put, List.getElem_toArray, List.getElem_cons_zero, List.getElem_cons_succ, List.setIfInBounds_toArray, List.set_cons_zero, List.set_cons_succ]
              refine wpAnyH_ready (rs := [7]) (by kernel_rfl) (by simp) ?_; refine AllReadyH.cons rfl (fun K hK => ?_) AllReadyH.nil
              go_simp
              refine (Hc3.out _ Hba.out).mono ?_
              rintro e w2 ⟨v2, rfl, hown2, hb2⟩
              obtain ⟨G3, g3, rfl, _⟩ := SlR.of_own hown2
              have hrow2 := (hb2.block P0 hsa).trans Hrowa.out
              have hrr2 := (hb2.block P1 (by omega)).trans Hr1a.out
              have Hb2 := Lib.hid hb2
              have Hf3 := Lib.hid hown2
              have Hown2 := Lib.hid (ownsRow_below Howna.out hb2)
              have hs2 := hb2.size
              refine hK.out _ _ ⟨cell_of_row _ _ 0 _ _ _ hrow2, cell_of_row _ _ 1 _ _ _ hrow2, cell_of_row _ _ 0 _ _ _ hrr2⟩ (fun hHeld => ?_)
              have Hrow2 := Lib.hid hrow2
              have Hrr2 := Lib.hid hrr2
              clear hK K hrow2 hrr2 hb2 hown2 Howna Hrowa Hr1a
              try simp only [Act.put, List.getElem_toArray, List.getElem_cons_zero, List.getElem_cons_succ, List.setIfInBounds_toArray, List.set_cons_zero, List.set_cons_succ]
              refine wpAnyH_take (i := 8) (v := ?vva8) rfl (by kernel_rfl) (by kernel_rfl) (by kernel_rfl) (fun _ _ _ h => h) (Or.inl ⟨by rfl, ?hya8⟩) hHeld ?resta8; (case hya8 => (intro w hSw; (try dsimp only at hSw); go_simp; all_goals (with_reducible rfl))); simp only [Act.put, List.getElem_toArray, List.getElem_cons_zero, List.getElem_cons_succ, List.setIfInBounds_toArray, List.set_cons_zero, List.set_cons_succ]
              refine wpAnyH_ready (rs := [18]) (by kernel_rfl) (by simp) ?_; refine AllReadyH.cons rfl (fun K hK => ?_) AllReadyH.nil
              go_simp
              refine (Hc2.out _ (Hba.out.trans (Hb2.out.mono (by have := Hba.out.size; omega)))).mono ?_
              rintro e w3 ⟨v3, rfl, hown3, hb3⟩
              obtain ⟨G2, g2, rfl, _⟩ := SlR.of_own hown3
              have hrow3 := (hb3.block P0 (by omega)).trans Hrow2.out
              have hrr3 := (hb3.block P1 (by omega)).trans Hrr2.out
              have Hb3 := Lib.hid hb3
              have Hf2 := Lib.hid hown3
              have Hown3 := Lib.hid (ownsRow_below Hown2.out hb3)
              have Hf3' := Lib.hid (ownsRow_below Hf3.out hb3)
              have hs3 := hb3.size
              refine hK.out _ _ ⟨cell_of_row _ _ 0 _ _ _ hrow3, cell_of_row _ _ 1 _ _ _ hrow3, cell_of_row _ _ 0 _ _ _ hrr3⟩ (fun hHeld => ?_)
              have Hrow3 := Lib.hid hrow3
              have Hrr3 := Lib.hid hrr3
              clear hK K hrow3 hrr3 hb3 hown3 Hown2 Hrow2 Hrr2 Hf3
              try simp only [Act.put, List.getElem_toArray, List.getElem_cons_zero, List.getElem_cons_succ, List.setIfInBounds_toArray, List.set_cons_zero, List.set_cons_succ]
              obtain ⟨R3, hR3⟩ : ∃ R, combP notB rg a = R := ⟨_, rfl⟩
              obtain ⟨R2, hR2⟩ : ∃ R, combP andB rg a = R := ⟨_, rfl⟩
              rw [hR3] at Hf3' Hnx ⊢
              rw [hR2] at Hf2 Hnx ⊢
              clear hR3 hR2
              refine wpAnyH_take (i := 19) (v := ?vva19) rfl (by kernel_rfl) (by kernel_rfl) (by kernel_rfl) (fun _ _ _ h => h) (Or.inl ⟨by rfl, ?hya19⟩) hHeld ?resta19; (case hya19 => (intro w hSw; (try dsimp only at hSw); go_simp; all_goals (with_reducible rfl))); simp only [Act.put, List.getElem_toArray, List.getElem_cons_zero, List.getElem_cons_succ, List.setIfInBounds_toArray, List.set_cons_zero, List.set_cons_succ]
              refine wpAnyH_ready (rs := [20]) (by kernel_rfl) (by simp) ?_; refine AllReadyH.cons rfl (fun K hK => ?_) AllReadyH.nil
              go_simp
              try rw [hor']
              have hrow4 : (w3.alloc (.cells #[.int .i64 z, .slice G3 R3.length g3, .int .i64 zb, .slice G2 R2.length g2] 77)).heap[P0]? = _ := (Below.heap_alloc _ _ _ (by omega)).trans Hrow3.out
              have hrr4 : (w3.alloc (.cells #[.int .i64 z, .slice G3 R3.length g3, .int .i64 zb, .slice G2 R2.length g2] 77)).heap[P1]? = _ := (Below.heap_alloc _ _ _ (by omega)).trans Hrr3.out
              refine hK.out _ _ ⟨cell_of_row _ _ 0 _ _ _ hrow4, cell_of_row _ _ 1 _ _ _ hrow4, cell_of_row _ _ 0 _ _ _ hrr4⟩ (fun hHeld => ?_)
              clear hK K hrow4 hrr4
              try simp only [Act.put, List.getElem_toArray, List.getElem_cons_zero, List.getElem_cons_succ, List.setIfInBounds_toArray, List.set_cons_zero, List.set_cons_succ]
              refine wpAnyH_ready (rs := [21]) (by kernel_rfl) (by simp) ?_; refine AllReadyH.cons rfl (fun K hK => ?_) AllReadyH.nil
              refine step_append_any _ rfl (.tmp 47) (.tmp 67) 75 rfl w8.heap.size 77 i0 _ 2 32 Tryz.underlying75 hi hz0 hz1 hz2 rfl (by omega) (.slice XA (2 * j) xc) (2 * j) (fcCells X) rfl (Hown3.out.alloc _) (w3.heap.size + 1) _ 2 2 [.int .i64 z, .slice G3 R3.length g3, .int .i64 zb, .slice G2 R2.length g2] rfl ⟨rfl, fun _ => ⟨_, rfl, Nat.lt_succ_self _, fun j u hu => (by exact World.news_of_block (heap_alloc_new w3 (.cells #[.int .i64 z, .slice G3 R3.length g3, .int .i64 zb, .slice G2 R2.length g2] 77)) j u hu)⟩⟩ (by simp [Value.oneCell']) (by simp only [maxLen]; omega) (by omega) (by have := Hba.out.size; simp; omega) ?_
              intro v7 w7 hown7 hg7 hat7
              have hsA := Hba.out.size
              have hob := own_base Hown3.out
              have hXne : ∀ g, (Value.slice XA (2 * j) xc).ownBlock = some g → w8.heap.size ≤ g ∧ g < wr.heap.size := fun g e => ⟨hob g e, own_lt Hown.out _ e⟩
              have hrow7 := (hg7.block P0 (by simp; omega) (fun e => by have := hXne _ e.symm; omega)).trans ((Below.heap_alloc _ _ _ (by omega)).trans Hrow3.out)
              have hrr7 := (hg7.block P1 (by simp; omega) (fun e => by have := hXne _ e.symm; omega)).trans ((Below.heap_alloc _ _ _ (by omega)).trans Hrr3.out)
              refine hK.out _ _ ⟨cell_of_row _ _ 0 _ _ _ hrow7, cell_of_row _ _ 1 _ _ _ hrow7, cell_of_row _ _ 0 _ _ _ hrr7⟩ (fun hHeld => ?_)
              obtain ⟨VB, vd, rfl, _, _, _⟩ := own_slice hown7
              have Hown7 := Lib.hid hown7
              have Hg7 := Lib.hid hg7
              have Hat7 := Lib.hid hat7
              have Hbig : Hid (Below wr.heap.size wr (w3.alloc (.cells #[.int .i64 z, .slice G3 R3.length g3, .int .i64 zb, .slice G2 R2.length g2] 77))) := Lib.hid (((Hba.out.trans (Hb2.out.mono hsA)).trans (Hb3.out.mono (by omega))).alloc (by omega) _)
              clear hK K hrow7 hrr7 hown7 hg7 hat7
              try simp only [Act.put, List.getElem_toArray, List.getElem_cons_zero, List.getElem_cons_succ, List.setIfInBounds_toArray, List.set_cons_zero, List.set_cons_succ]
              refine wpAnyH_take (i := 22) (v := ?vva22) rfl (by kernel_rfl) (by kernel_rfl) (by kernel_rfl) (fun _ _ _ h => h) (Or.inl ⟨by rfl, ?hya22⟩) hHeld ?resta22; (case hya22 => (intro w hSw; (try dsimp only at hSw); go_simp; all_goals (with_reducible rfl))); simp only [Act.put, List.getElem_toArray, List.getElem_cons_zero, List.getElem_cons_succ, List.setIfInBounds_toArray, List.set_cons_zero, List.set_cons_succ]
              refine wpAnyH_done (by kernel_rfl) ?_ _
              clear hHeld
              go_wp2
              go_roundw
              case rel =>
                have hXe : FtOwn 77 w7 w.heap.size w8.heap.size (.slice VB (2 * j + 2) vd) (X ++ [(⟨z, R3⟩, ⟨G3, g3⟩), (⟨zb, R2⟩, ⟨G2, g2⟩)]) := by
                  refine FtOwn.pushes HXo.out _ (fun x hx => ?_) (fun x hx g e1 e2 => ?_) Hbig.out (by rw [HXl.out]; exact Hg7.out) (by rw [HXl.out]; exact Hown7.out) (by rw [HXl.out]; exact Hat7.out)
                  · simp only [List.mem_cons, List.not_mem_nil, or_false] at hx
                    rcases hx with rfl | rfl
                    · exact (own_rebase Hf3'.out (by omega)).alloc _
                    · exact (own_rebase Hf2.out (by omega)).alloc _
                  · rw [HXl.out] at e1
                    have h1 := hXne g e1
                    simp only [List.mem_cons, List.not_mem_nil, or_false] at hx
                    rcases hx with rfl | rfl
                    · have := own_base Hf3'.out g e2; omega
                    · have := own_base Hf2.out g e2; omega
                refine ⟨j + 1, X ++ [(⟨z, R3⟩, ⟨G3, g3⟩), (⟨zb, R2⟩, ⟨G2, g2⟩)], by go_num, by omega, hXe, Lib.hid ?_, (Hbr.out.trans (Hbig.out.mono hsr)).grown Hg7.out (by have := Hbig.out.size; omega) (fun g e => hob g e)⟩
                rw [Hnx.out, ← HX.out]
                simp [fcs]
              case measure => simp [intOf]; omega
            · obtain rfl : j = ln := by omega
              have hFl : F.length = j := by rw [← HL.out, fcs_len]; exact HlN.out
              have htk : F.take j = F := List.take_of_length_le (by omega)
              have HX2 : Hid (fcs X = twoR k a F) := Lib.hid (by rw [HX.out, htk])
              have Hbw : Hid (Below w.heap.size w wr) := Lib.hid (Hbw8.out.trans (Hbr.out.mono (by omega)))
              have Hr1 : Hid (wr.heap[P1]? = some (.cells #[.slice D q d] 34 (0, 0))) := Lib.hid ((Hbr.out.block _ hs8).trans Hr8.out)
              have hwr : w8.heap.size ≤ wr.heap.size := hsr
              have Hb89 := Lib.hid Hbr.out
              clear htk HX Hbr HSL8 HF8 hsr hjn hj
              obtain ⟨ln, rfl⟩ : ∃ ln : Nat, ln = j := ⟨_, rfl⟩
              obtain ⟨w9, rfl⟩ : ∃ w9 : World, w9 = wr := ⟨_, rfl⟩
              have Hc3 := Lib.hid (fun W (hW : Below w8.heap.size w8 W) => combineR_any D UA q d un uc a U 3 W (Hsl8.out.below hW) (HU8.out.below hW) (by omega))
              have Hc1 := Lib.hid (fun W (hW : Below w8.heap.size w8 W) => combineR_any UA D un uc q d U a 1 W (HU8.out.below hW) (Hsl8.out.below hW) (by omega))
              rw [howR3] at Hc3
              rw [howR1] at Hc1
              have hsh : wrap64 ((2 : Int) ^ k) = ((2 ^ k : Nat) : Int) := shl_one k (by omega)
              have hsh' : IntKind.i64.wrap ((2 : Int) ^ k) = ((2 ^ k : Nat) : Int) := by rw [IntWalk.i64_left]; exact hsh
              obtain ⟨R3, hR3⟩ : ∃ R, combP notB a U = R := ⟨_, rfl⟩
              obtain ⟨R1, hR1⟩ : ∃ R, combP orB U a = R := ⟨_, rfl⟩
              rw [hR3] at Hc3
              rw [hR1] at Hc1
              rw [nextR_two, hR3, hR1] at Hst
              obtain ⟨zb, hzb⟩ : ∃ zb : Int, ((2 ^ k : Nat) : Int) = zb := ⟨_, rfl⟩
              rw [hzb] at hsh hsh' Hst
              clear hR3 hR1 hzb
              go_upto_region 20 with fail
              refine wp_region_held (S := fun w' => w'.cell? ⟨P1, 0, none⟩ = some (.slice D q d)) (by kernel_rfl) ?_
              change wpAnyH _ _ _ _ _ 11 #[false, false, false, false, false, false, false, false, false, false, false] _ w9.drew
              have y2 := cell_of_row _ _ 0 _ _ _ Hr1.out
              have hHeld : (fun w' : World => w'.cell? ⟨P1, 0, none⟩ = some (.slice D q d)) w9.drew := y2
              obtain ⟨wa, hwa⟩ : ∃ wa : World, wa = w9.drew := ⟨_, rfl⟩
              have Hr1a : Hid (wa.heap[P1]? = some (.cells #[.slice D q d] 34 (0, 0))) := Lib.hid (by rw [hwa]; exact Hr1.out)
              have Hba : Hid (Below w9.heap.size w9 wa) := Lib.hid (by rw [hwa]; exact (Below.refl _ _).drew)
              have Howna : Hid (wa.ownsRow w8.heap.size 77 2 (.slice XA (2 * ln) xc) (2 * ln) (fcCells X)) := Lib.hid (by rw [hwa]; exact Hown.out)
              have hsa : w9.heap.size ≤ wa.heap.size := Hba.out.size
              rw [← hwa] at hHeld ⊢
              clear hwa y2
              refine wpAnyH_take (i := 0) (v := ?vvb0) rfl (by kernel_rfl) (by kernel_rfl) (by kernel_rfl) (fun _ _ _ h => h) (Or.inl ⟨by rfl, ?hyb0⟩) hHeld ?restb0; (case hyb0 => (intro w hSw; (try dsimp only at hSw); go_simp; all_goals (with_reducible rfl))); simp only [Act.put, List.getElem_toArray, List.getElem_cons_zero, List.getElem_cons_succ, List.setIfInBounds_toArray, List.set_cons_zero, List.set_cons_succ]
              refine wpAnyH_take (i := 1) (v := ?vvb1) rfl (by kernel_rfl) (by kernel_rfl) (by kernel_rfl) (fun _ _ _ h => h) (Or.inl ⟨by rfl, ?hyb1⟩) hHeld ?restb1; (case hyb1 => (intro w hSw; (try dsimp only at hSw); go_simp; all_goals (with_reducible rfl))); simp only [Act.put, List.getElem_toArray, List.getElem_cons_zero, List.getElem_cons_succ, List.setIfInBounds_toArray, List.set_cons_zero, List.set_cons_succ]
              refine wpAnyH_take (i := 2) (v := ?vvb2) rfl (by kernel_rfl) (by kernel_rfl) (by kernel_rfl) (fun _ _ _ h => h) (Or.inl ⟨by rfl, ?hyb2⟩) hHeld ?restb2; (case hyb2 => (intro w hSw; (try dsimp only at hSw); go_simp; all_goals (with_reducible rfl))); simp only [Act.put, List.getElem_toArray, List.getElem_cons_zero, List.getElem_cons_succ, List.setIfInBounds_toArray, List.set_cons_zero, List.set_cons_succ]
              refine wpAnyH_take (i := 3) (v := ?vvb3) rfl (by kernel_rfl) (by kernel_rfl) (by kernel_rfl) (fun _ _ _ h => h) (Or.inl ⟨by rfl, ?hyb3⟩) hHeld ?restb3; (case hyb3 => (intro w hSw; (try dsimp only at hSw); go_simp; all_goals (with_reducible rfl))); simp only [Act.put, List.getElem_toArray, List.getElem_cons_zero, List.getElem_cons_succ, List.setIfInBounds_toArray, List.set_cons_zero, List.set_cons_succ]
              refine wpAnyH_take (i := 4) (v := ?vvb4) rfl (by kernel_rfl) (by kernel_rfl) (by kernel_rfl) (fun _ _ _ h => h) (Or.inl ⟨by rfl, ?hyb4⟩) hHeld ?restb4; (case hyb4 => (intro w hSw; (try dsimp only at hSw); go_simp; all_goals (with_reducible rfl))); simp only [Act.put, List.getElem_toArray, List.getElem_cons_zero, List.getElem_cons_succ, List.setIfInBounds_toArray, List.set_cons_zero, List.set_cons_succ]
              refine wpAnyH_take (i := 5) (v := ?vvb5) rfl (by kernel_rfl) (by kernel_rfl) (by kernel_rfl) (fun _ _ _ h => h) (Or.inl ⟨by rfl, ?hyb5⟩) hHeld ?restb5; (case hyb5 => (intro w hSw; (try dsimp only at hSw); go_simp; all_goals (with_reducible rfl))); simp only [Act.put, List.getElem_toArray, List.getElem_cons_zero, List.getElem_cons_succ, List.setIfInBounds_toArray, List.set_cons_zero, List.set_cons_succ]
              refine wpAnyH_ready (rs := [6]) (by kernel_rfl) (by simp) ?_; refine AllReadyH.cons rfl (fun K hK => ?_) AllReadyH.nil
              go_simp
              refine (Hc3.out _ (Hb89.out.trans (Hba.out.mono hwr))).mono ?_
              rintro e w2 ⟨v2, rfl, hown2, hb2⟩
              obtain ⟨G3, g3, rfl, _⟩ := SlR.of_own hown2
              have hrr2 := (hb2.block P1 (by omega)).trans Hr1a.out
              have Hb2 := Lib.hid hb2
              have Hf3 := Lib.hid hown2
              have Hown2 := Lib.hid (ownsRow_below Howna.out hb2)
              have hs2 := hb2.size
              refine hK.out _ _ (cell_of_row _ _ 0 _ _ _ hrr2) (fun hHeld => ?_)
              have Hrr2 := Lib.hid hrr2
              clear hK K hrr2 hb2 hown2 Howna Hr1a
              try simp only [Act.put, List.getElem_toArray, List.getElem_cons_zero, List.getElem_cons_succ, List.setIfInBounds_toArray, List.set_cons_zero, List.set_cons_succ]
              refine wpAnyH_take (i := 7) (v := ?vvb7) rfl (by kernel_rfl) (by kernel_rfl) (by kernel_rfl) (fun _ _ _ h => h) (Or.inl ⟨by rfl, ?hyb7⟩) hHeld ?restb7; (case hyb7 => (intro w hSw; (try dsimp only at hSw); go_simp; all_goals (with_reducible rfl))); simp only [Act.put, List.getElem_toArray, List.getElem_cons_zero, List.getElem_cons_succ, List.setIfInBounds_toArray, List.set_cons_zero, List.set_cons_succ]
              refine wpAnyH_ready (rs := [8]) (by kernel_rfl) (by simp) ?_; refine AllReadyH.cons rfl (fun K hK => ?_) AllReadyH.nil
              go_simp
              try rw [hsh']
              have hrr4 : (w2.alloc (.cells #[.int .i64 zb, .slice G3 R3.length g3] 77)).heap[P1]? = _ := (Below.heap_alloc _ _ _ (by omega)).trans Hrr2.out
              refine hK.out _ _ (cell_of_row _ _ 0 _ _ _ hrr4) (fun hHeld => ?_)
              clear hK K hrr4
              try simp only [Act.put, List.getElem_toArray, List.getElem_cons_zero, List.getElem_cons_succ, List.setIfInBounds_toArray, List.set_cons_zero, List.set_cons_succ]
              refine wpAnyH_ready (rs := [9]) (by kernel_rfl) (by simp) ?_; refine AllReadyH.cons rfl (fun K hK => ?_) AllReadyH.nil
              refine step_append_any _ rfl (.tmp 70) (.tmp 78) 75 rfl w8.heap.size 77 i0 _ 2 32 Tryz.underlying75 hi hz0 hz1 hz2 rfl (by omega) (.slice XA (2 * ln) xc) (2 * ln) (fcCells X) rfl (Hown2.out.alloc _) (w2.heap.size + 1) _ 1 1 [.int .i64 zb, .slice G3 R3.length g3] rfl ⟨rfl, fun _ => ⟨_, rfl, Nat.lt_succ_self _, fun j u hu => (by exact World.news_of_block (heap_alloc_new w2 (.cells #[.int .i64 zb, .slice G3 R3.length g3] 77)) j u hu)⟩⟩ (by simp [Value.oneCell']) (by simp only [maxLen]; omega) (by omega) (by have := Hba.out.size; simp; omega) ?_
              intro v7 w7 hown7 hg7 hat7
              have hob := own_base Hown2.out
              have hXne : ∀ g, (Value.slice XA (2 * ln) xc).ownBlock = some g → w8.heap.size ≤ g ∧ g < w9.heap.size := fun g e => ⟨hob g e, own_lt Hown.out _ e⟩
              have hrr7 := (hg7.block P1 (by simp; omega) (fun e => by have := hXne _ e.symm; omega)).trans ((Below.heap_alloc _ _ _ (by omega)).trans Hrr2.out)
              refine hK.out _ _ (cell_of_row _ _ 0 _ _ _ hrr7) (fun hHeld => ?_)
              obtain ⟨VB, vd, rfl, _, _, _⟩ := own_slice hown7
              have Hbig : Hid (Below w9.heap.size w9 (w2.alloc (.cells #[.int .i64 zb, .slice G3 R3.length g3] 77))) := Lib.hid ((Hba.out.trans (Hb2.out.mono hsa)).alloc (by omega) _)
              have HN : Hid (FtOwn 77 w7 w.heap.size w8.heap.size (.slice VB (2 * ln + 1) vd) (X ++ [(⟨zb, R3⟩, ⟨G3, g3⟩)])) := Lib.hid (by
                refine FtOwn.pushes HXo.out _ (fun x hx => ?_) (fun x hx g e1 e2 => ?_) Hbig.out (by rw [HXl.out]; exact hg7) (by rw [HXl.out]; exact hown7) (by rw [HXl.out]; exact hat7)
                · rw [List.mem_singleton] at hx
                  subst hx
                  exact (own_rebase Hf3.out (by omega)).alloc _
                · rw [HXl.out] at e1
                  have h1 := hXne g e1
                  rw [List.mem_singleton] at hx
                  subst hx
                  have := own_base Hf3.out g e2
                  omega)
              have HNe : Hid (fcs (X ++ [(⟨zb, R3⟩, ⟨G3, g3⟩)]) = twoR k a F ++ [⟨zb, R3⟩]) := Lib.hid (by rw [← HX2.out]; simp [fcs])
              have hNl : (X ++ [(⟨zb, R3⟩, ⟨G3, g3⟩)] : FL).length = 2 * ln + 1 := by rw [List.length_append, HXl.out]; rfl
              have HNl := Lib.hid hNl
              have Hb7 : Hid (Below w8.heap.size w8 w7) := Lib.hid ((Hb89.out.trans (Hbig.out.mono hwr)).grown hg7 (by have := Hbig.out.size; omega) (fun g e => hob g e))
              have Hrr7 := Lib.hid hrr7
              generalize (X ++ [(⟨zb, R3⟩, ⟨G3, g3⟩)] : FL) = N at *
              obtain ⟨nn, hnn⟩ : ∃ nn, 2 * ln + 1 = nn := ⟨_, rfl⟩
              rw [hnn] at HN HNl ⊢
              have hnb : nn ≤ 8193 := by omega
              clear hnn
              clear hK K hrr7 hown7 hg7 hat7 hNl HX2 HXl
              try simp only [Act.put, List.getElem_toArray, List.getElem_cons_zero, List.getElem_cons_succ, List.setIfInBounds_toArray, List.set_cons_zero, List.set_cons_succ]
              refine wpAnyH_take (i := 10) (v := ?vvb10) rfl (by kernel_rfl) (by kernel_rfl) (by kernel_rfl) (fun _ _ _ h => h) (Or.inl ⟨by rfl, ?hyb10⟩) hHeld ?restb10; (case hyb10 => (intro w hSw; (try dsimp only at hSw); go_simp; all_goals (with_reducible rfl))); simp only [Act.put, List.getElem_toArray, List.getElem_cons_zero, List.getElem_cons_succ, List.setIfInBounds_toArray, List.set_cons_zero, List.set_cons_succ]
              refine wpAnyH_done (by kernel_rfl) ?_ _
              clear hHeld Hc3 HXo hXne hob Hbig Hown2 Hrr2 Hf3 Hb2 Hba Hr1 Hown hsh hsh'
              have x7 := cell_of_row _ _ 0 _ _ _ Hrr7.out
              go_upto_region 24 with (first
                | (go_at_call 38
                   refine (Hc1.out _ Hb7.out).mono ?_
                   rintro e wb ⟨vb, rfl, hownb, hbb⟩
                   obtain ⟨E1, e1, rfl, hSb⟩ := SlR.of_own hownb
                   have HSb := Lib.hid hSb
                   have Hbb := Lib.hid hbb
                   have hsb := hbb.size
                   clear hownb hbb hSb)
                | fail)
              have HNb := Lib.hid (HN.out.at'.below Hbb.out)
              have Hbwb : Hid (Below w.heap.size w wb) := Lib.hid ((Hbw8.out.trans (Hb7.out.mono (by omega))).trans (Hbb.out.mono (by have := Hb7.out.size; omega)))
              have hwb : w8.heap.size ≤ wb.heap.size := by have := Hb7.out.size; omega
              clear x7 Hrr7 HN Hc1
              obtain ⟨NA, nc, hNe, hNs⟩ := HNb.out.slf
              injection hNe with e1 e2 e3
              subst e1 e3
              rw [HNl.out] at hNs
              have HNs := Lib.hid hNs
              clear hNs e2
              go_loopw [6, 86] (fun fv jv wr => ∃ (j : Nat) (Y : FL), jv = .int .i64 (j : Int) ∧ j ≤ nn ∧ FtOwn 77 wr w.heap.size wb.heap.size fv Y ∧ Hid (fcs Y = someR ((fcs N).take j)) ∧ Below wb.heap.size wb wr) (fun _ jv _ => nn - (intOf jv).toNat)
              case atStart => exact ⟨0, [], rfl, by omega, FtOwn.nil _ _ _ _, Lib.hid rfl, Below.refl _ _⟩
              case round =>
                obtain ⟨j, Y, rfl, hjn, hY, HY, hbr⟩ := hrel
                have Hbr := Lib.hid hbr
                have hsr := hbr.size
                obtain ⟨YA, yc, rfl, _, _, _⟩ := own_slice hY.o
                have HYo := Lib.hid hY
                clear hY hbr
                by_cases hj : j < nn
                · have hj' : (j : Int) < (nn : Int) := by omega
                  have hjN : j < N.length := by rw [HNl.out]; exact hj
                  obtain ⟨b2, off2, rfl, hb2, x0, x1, hf2⟩ := (HNs.out.below Hbr.out).at j hjN
                  have Hfx := Lib.hid (ownsRow_below (HNb.out.fs _ (List.getElem_mem hjN)) Hbr.out)
                  have hfn : (fcs N)[j]'(by rw [fcs_len]; exact hjN) = N[j].1 := by simp [fcs]
                  have Hnx : Hid (someR ((fcs N).take (j + 1)) = if 0 < N[j].1.rg.length then someR ((fcs N).take j) ++ [N[j].1] else someR ((fcs N).take j)) := Lib.hid (by
                    rw [List.take_succ_eq_append_getElem (by rw [fcs_len]; exact hjN), someR_snoc, hfn])
                  have hyl : Y.length ≤ j := by
                    have := congrArg List.length HY.out
                    rw [fcs_len] at this
                    have h2 : (someR ((fcs N).take j)).length ≤ ((fcs N).take j).length := List.length_filter_le _ _
                    rw [List.length_take] at h2
                    omega
                  have Hlt : Hid (∀ g, (Value.slice N[j].2.a N[j].1.rg.length N[j].2.c).ownBlock = some g → g < wb.heap.size) := Lib.hid (fun g e => own_lt (HNb.out.fs _ (List.getElem_mem hjN)) g e)
                  clear hfn hf2
                  obtain ⟨x, hx⟩ : ∃ x, N[j] = x := ⟨_, rfl⟩
                  rw [hx] at x0 x1 Hfx Hnx Hlt
                  obtain ⟨⟨z, rg⟩, ⟨E, ec⟩⟩ := x
                  dsimp only at x0 x1 Hfx Hnx Hlt
                  obtain ⟨rn, hrn⟩ : ∃ rn, rg.length = rn := ⟨_, rfl⟩
                  rw [hrn] at x1 Hnx Hfx Hlt
                  have Hrn := Lib.hid hrn
                  obtain ⟨yl, hyl2⟩ : ∃ yl, Y.length = yl := ⟨_, rfl⟩
                  have HYo1 := HYo.out.o
                  rw [hyl2] at hyl HYo1 ⊢
                  have HYl := Lib.hid hyl2
                  have Hown := Lib.hid HYo1
                  clear hx hrn hyl2 HYo1
                  by_cases h0 : 0 < rn
                  · have h0' : (0 : Int) < (rn : Int) := by omega
                    go_wp2_with (first
                      | (at_builtin
                         refine wpList_append_any _ rfl (.tmp 94) (.tmp 96) _ rfl wb.heap.size 77 i0 _ 2 32 Tryz.underlying75 hi hz0 hz1 hz2 rfl (by omega) _ yl (fcCells Y) rfl (World.ownsRow.alloc (World.ownsRow.alloc Hown.out _) _) (wr.heap.size + 2) _ 1 1 [.int .i64 z, .slice E rn ec] rfl ⟨rfl, fun _ => ⟨_, rfl, by show wr.heap.size + 1 < _; omega, fun j u hu => (by exact World.news_of_block (heap_alloc2_new wr _ (.cells #[.int .i64 z, .slice E rn ec] 77)) j u hu)⟩⟩ (by simp [Value.oneCell']) (by simp only [maxLen]; omega) (by omega) (by simp; omega) ?_
                         intro v6 w6 hown6 hg6 hat6
                         obtain ⟨VB2, vd2, rfl, _, _, _⟩ := own_slice hown6
                         have Hown6 := Lib.hid hown6
                         have Hg6 := Lib.hid hg6
                         have Hat6 := Lib.hid hat6
                         clear hown6 hg6 hat6)
                      | fail)
                    go_roundw
                    case rel =>
                      have hwa : Below wr.heap.size wr ((wr.alloc (.cells #[.int .i64 z, .slice E rn ec] 77)).alloc (.cells #[.int .i64 z, .slice E rn ec] 77)) := ((Below.refl _ _).alloc (Nat.le_refl _) _).alloc (by simp) _
                      refine ⟨j + 1, Y ++ [(⟨z, rg⟩, ⟨E, ec⟩)], by go_num, by omega, ?_, Lib.hid (by rw [Hnx.out, if_pos h0, ← HY.out] <;> simp [fcs]), (Hbr.out.trans (hwa.mono hsr)).grown Hg6.out (by have := hwa.size; omega) (fun g e => own_base Hown.out g e)⟩
                      refine FtOwn.pushes HYo.out _ (fun x hx => ?_) (fun x hx g e1 e2 => ?_) hwa (by rw [HYl.out]; exact Hg6.out) (by rw [HYl.out]; have h6 := Hown6.out; rw [← Hrn.out] at h6; exact h6) (by rw [HYl.out]; exact Hat6.out)
                      · rw [List.mem_singleton] at hx
                        subst hx
                        show World.ownsRow _ _ _ _ (.slice E rg.length ec) rg.length (rCells rg)
                        rw [Hrn.out]
                        exact (Hfx.out.alloc _).alloc _
                      · rw [List.mem_singleton] at hx
                        subst hx
                        rw [HYl.out] at e1
                        have h1 := own_base Hown.out g e1
                        have h2 := Hlt.out g (by rw [← Hrn.out]; exact e2)
                        omega
                    case measure => simp [intOf]; omega
                  · have h0' : ¬ (0 : Int) < (rn : Int) := by omega
                    go_wp2
                    go_roundw
                    case rel =>
                      refine ⟨j + 1, Y, by go_num, by omega, ?_, Lib.hid (by rw [Hnx.out, if_neg h0, HY.out]), Hbr.out.alloc hsr _⟩
                      have := HYo.out.below ((Below.refl wr.heap.size wr).alloc (Nat.le_refl _) (.cells #[.int .i64 z, .slice E rn ec] 77))
                      rw [HYl.out] at this
                      exact this
                    case measure => simp [intOf]; omega
                · obtain rfl : j = nn := by omega
                  have hall : (fcs N).take j = fcs N := List.take_of_length_le (by rw [fcs_len, HNl.out]; exact Nat.le_refl _)
                  have HYe : Hid (fcs Y = (stR (rgs l) (k + 1)).1) := Lib.hid (by rw [HY.out, hall, HNe.out, Hst.out])
                  have HUe : Hid ((stR (rgs l) (k + 1)).2 = R1) := Lib.hid (by rw [Hst.out])
                  clear hall
                  go_wp2
                  go_roundw
                  case rel => exact ⟨k + 1, Y, E1, e1, by go_num, by omega, HYo.out.at', HYe.out, by rw [HUe.out], by rw [HUe.out]; exact HSb.out.below Hbr.out, Hbwb.out.trans (Hbr.out.mono (by omega))⟩
                  case measure => simp [intOf]; omega
        · obtain rfl : k = n := by omega
          have hF0 := HF.out.fs
          have hpos := Hok.out.pos
          have HFl : Hid ((stR (rgs l) k).1.length = L.length) := Lib.hid hlnL.symm
          obtain ⟨F, hFe⟩ : ∃ F, (stR (rgs l) k).1 = F := ⟨_, rfl⟩
          rw [hFe] at Hres HL hpos HFl Hsm
          have Hpos := Lib.hid hpos
          have Hfs := Lib.hid hF0
          obtain ⟨ln, hlN⟩ : ∃ ln, L.length = ln := ⟨_, rfl⟩
          rw [hlN] at HSL HFl hLb ⊢
          have HlN := Lib.hid hlN
          clear hFe hpos hF0 hlN hlnL hln HF HU Hok HA
          have Hbig : Hid (∀ f ∈ F, 120 < f.rg.length → res = ([], 1)) := Lib.hid (fun f hf h => by rw [Hres.out, if_pos (List.any_eq_true.2 ⟨f, hf, by simpa using h⟩)])
          have Hall : Hid ((∀ f ∈ F, f.rg.length ≤ 120) → res = (selU F (2 ^ k), 0)) := Lib.hid (fun h => by
            rw [Hres.out, if_neg]
            intro hc
            obtain ⟨f, hf, h2⟩ := List.any_eq_true.1 hc
            have := h f hf
            simp at h2
            omega)
          clear Hres
          obtain ⟨p2, hp2⟩ : ∃ p2, 2 ^ k = p2 := ⟨_, rfl⟩
          have h1p : 1 ≤ p2 := by rw [← hp2]; exact Nat.two_pow_pos k
          have hsh : wrap64 ((2 : Int) ^ k) = (p2 : Int) := by rw [shl_one k (by omega), hp2]
          have hsh' : IntKind.i64.wrap ((2 : Int) ^ k) = (p2 : Int) := by rw [IntWalk.i64_left]; exact hsh
          have ek : IntKind.i64.wrap (k : Int) = (k : Int) := IntWalk.i64_in _ (by omega)
          have hk0 : 0 ≤ (k : Int) := by omega
          rw [hp2] at Hpos Hall h2k
          have h2k' : p2 ≤ 4096 := h2k
          have Hsh := Lib.hid hsh
          have Hsh' := Lib.hid hsh'
          clear hp2 hsh hsh' h2k
          go_upto_region 32 with fail
          go_loopw [15, 16] (fun ov sv wr => ∃ (s : Nat) (Z : FL), sv = .int .i64 (s : Int) ∧ 1 ≤ s ∧ s ≤ p2 ∧ FtOwn 36 wr w.heap.size wo.heap.size ov Z ∧ Hid (fcs Z = selU F s) ∧ Hid (∀ f ∈ F, f.set < (s : Int) → f.rg.length ≤ 120) ∧ Below wo.heap.size wo wr) (fun _ sv _ => p2 - (intOf sv).toNat)
          case atStart => exact ⟨1, [], rfl, by omega, by omega, FtOwn.nil _ _ _ _, Lib.hid (by
              rw [selU_succ]
              show [] = [] ++ _
              rw [List.nil_append]
              exact (selF_none fun f hf => by have := (Hpos.out f hf).1; omega).symm), Lib.hid (fun f hf h => by have := (Hpos.out f hf).1; omega), Below.refl _ _⟩
          case round =>
            obtain ⟨s, Z, rfl, hs1, hsp, hZ, HZ, Hsmall, hbr⟩ := hrel
            obtain ⟨ZA, zc, rfl, _, _, _⟩ := own_slice hZ.o
            have HZo := Lib.hid hZ
            have Hbr := Lib.hid hbr
            have hsr := hbr.size
            clear hZ hbr
            obtain ⟨ws, rfl⟩ : ∃ ws : World, ws = wr := ⟨_, rfl⟩
            by_cases hsl : s < p2
            · have hsl' : (s : Int) < (p2 : Int) := by omega
              have hsh := Hsh.out
              have hsh' := Hsh'.out
              go_upto_region 35 with fail
              clear hsh hsh'
              go_loopw [15, 109] (fun ov jv wr => ∃ (j : Nat) (Z : FL), jv = .int .i64 (j : Int) ∧ j ≤ ln ∧ FtOwn 36 wr w.heap.size wo.heap.size ov Z ∧ Hid (fcs Z = selU F s ++ selF (F.take j) (s : Int)) ∧ Hid (∀ f ∈ F.take j, f.set = (s : Int) → f.rg.length ≤ 120) ∧ Below wo.heap.size wo wr) (fun _ jv _ => ln - (intOf jv).toNat)
              case atStart => exact ⟨0, Z, rfl, by omega, HZo.out, Lib.hid (by rw [HZ.out]; simp [selF]), Lib.hid (fun f hf => by simp at hf), Hbr.out⟩
              case round =>
                obtain ⟨j, Z2, rfl, hjn, hZ, HZ2, Hsm2, hbr⟩ := hrel
                obtain ⟨ZA2, zc2, rfl, _, _, _⟩ := own_slice hZ.o
                have HZo2 := Lib.hid hZ
                have Hbr2 := Lib.hid hbr
                have hsr2 := hbr.size
                clear hZ hbr
                by_cases hj : j < ln
                · have hj' : (j : Int) < (ln : Int) := by omega
                  have hjL : j < L.length := by rw [HlN.out]; exact hj
                  obtain ⟨b2, off2, rfl, hb2, x0, x1, hf2⟩ := (HSL.out.below Hbr2.out).at j hjL
                  have hFn : j < F.length := by rw [HFl.out]; exact hj
                  have hFj : F[j] = L[j].1 := by simp [← HL.out, fcs]
                  have hmem : L[j].1 ∈ F := by rw [← hFj]; exact List.getElem_mem hFn
                  have Hfx := Lib.hid (ownsRow_below (Hfs.out _ (List.getElem_mem hjL)) Hbr2.out)
                  have Hlt : Hid (∀ g, (Value.slice L[j].2.a L[j].1.rg.length L[j].2.c).ownBlock = some g → g < wo.heap.size) := Lib.hid (fun g e => own_lt (Hfs.out _ (List.getElem_mem hjL)) g e)
                  have Hnx : Hid (selF (F.take (j + 1)) (s : Int) = if L[j].1.set = (s : Int) then selF (F.take j) (s : Int) ++ [L[j].1] else selF (F.take j) (s : Int)) := Lib.hid (by
                    rw [List.take_succ_eq_append_getElem hFn, hFj]
                    unfold selF
                    rw [List.filter_append, List.filter_cons]
                    by_cases h : L[j].1.set = (s : Int) <;> simp [h])
                  have Hnx2 : Hid ((L[j].1.set = (s : Int) → L[j].1.rg.length ≤ 120) → ∀ f ∈ F.take (j + 1), f.set = (s : Int) → f.rg.length ≤ 120) := Lib.hid (fun h f hf => by
                    rw [List.take_succ_eq_append_getElem hFn, hFj] at hf
                    rcases List.mem_append.1 hf with hf | hf
                    · exact Hsm2.out f hf
                    · rw [List.mem_singleton] at hf
                      subst hf
                      exact h)
                  have Hbg : Hid (120 < L[j].1.rg.length → res = ([], 1)) := Lib.hid (Hbig.out _ hmem)
                  have hzl : Z2.length ≤ 8192 := by
                    have h1 := congrArg List.length HZ2.out
                    rw [fcs_len, List.length_append] at h1
                    have h2 := selU_len F s
                    have h3 : (selF (F.take j) (s : Int)).length ≤ (F.take j).length := List.length_filter_le _ _
                    rw [List.length_take] at h3
                    have := HFl.out
                    omega
                  clear hFj hf2 hmem
                  obtain ⟨x, hx⟩ : ∃ x, L[j] = x := ⟨_, rfl⟩
                  rw [hx] at x0 x1 Hfx Hnx Hlt Hnx2 Hbg
                  obtain ⟨⟨z, rg⟩, ⟨E, ec⟩⟩ := x
                  dsimp only at x0 x1 Hfx Hnx Hlt Hnx2 Hbg
                  obtain ⟨rn, hrn⟩ : ∃ rn, rg.length = rn := ⟨_, rfl⟩
                  rw [hrn] at x1 Hfx Hlt Hnx2 Hbg
                  have Hrn := Lib.hid hrn
                  obtain ⟨zl, hzl2⟩ : ∃ zl, Z2.length = zl := ⟨_, rfl⟩
                  have HZo1 := HZo2.out.o
                  rw [hzl2] at hzl HZo1 ⊢
                  have HZl := Lib.hid hzl2
                  have Hown := Lib.hid HZo1
                  clear hx hrn hzl2 HZo1
                  by_cases hz : z = (s : Int)
                  · subst hz
                    by_cases h120 : 120 < rn
                    · have Hr := Lib.hid (Hbg.out h120)
                      go_wp2_with (first
                        | (go_at_call 39
                           refine (boundR_big _ rn _ _ h120).mono ?_
                           rintro e w5 ⟨rfl, hb5⟩
                           have Hbf : Hid (Below wo.heap.size wo w5) := Lib.hid (Hbr2.out.trans (show Below wo.heap.size wr w5 from (by have hbq := hb5; exact (by repeat' (first | with_reducible exact Below.refl _ _ | with_reducible assumption | with_reducible refine below_drewN ?_ _ | with_reducible refine Below.drew ?_ | with_reducible refine Below.alloc ?_ ?_ _ | with_reducible refine Below.setCell ?_ ?_ _ | with_reducible refine Below.trans ?_ (Below.mono (by with_reducible assumption) ?_) | with_reducible refine below_only ?_ (by with_reducible assumption) ?_ ?_ | (simp; done) | (simp; omega) | omega)))))
                           clear hb5)
                        | fail)
                      go_ret2
                      rw [Hr.out]
                      exact ⟨[], _, rfl, FsOwn.nil _ _, rfl, (Hbo.out.trans (Hbf.out.mono hso)).alloc (by have := Hbf.out.size; omega) _⟩
                    · go_wp2_with (first
                        | (go_at_call 39
                           refine (boundR_ok _ rn _ _ (by omega)).mono ?_
                           rintro e w5 ⟨rfl, hb5⟩
                           have Hb5 : Hid (Below wr.heap.size wr w5) := Lib.hid (show Below wr.heap.size wr w5 from (by have hbq := hb5; exact (by repeat' (first | with_reducible exact Below.refl _ _ | with_reducible assumption | with_reducible refine below_drewN ?_ _ | with_reducible refine Below.drew ?_ | with_reducible refine Below.alloc ?_ ?_ _ | with_reducible refine Below.setCell ?_ ?_ _ | with_reducible refine Below.trans ?_ (Below.mono (by with_reducible assumption) ?_) | with_reducible refine below_only ?_ (by with_reducible assumption) ?_ ?_ | (simp; done) | (simp; omega) | omega))))
                           have Hown5 := Lib.hid (ownsRow_below Hown.out Hb5.out)
                           have hs5 := Hb5.out.size
                           clear hb5)
                        | (at_builtin
                           go_loud (refine wpList_append_any _ rfl (.tmp 126) (.tmp 130) _ rfl wo.heap.size 36 j0 _ 2 32 Tryz.underlying28 hjj hy0 hy1 hy2 rfl (by omega) _ zl (fcCells Z2) rfl (World.ownsRow.alloc (World.ownsRow.alloc Hown5.out _) _) _ _ 1 1 [.int .i64 (s : Int), .slice E rn ec] rfl ⟨rfl, fun _ => ⟨_, rfl, Nat.lt_succ_self _, fun j u hu => (by exact World.news_of_block (heap_alloc2_new _ _ (.cells #[.int .i64 (s : Int), .slice E rn ec] 36)) j u hu)⟩⟩ (by simp [Value.oneCell']) (by simp only [maxLen]; omega) (by omega) (by simp; omega) ?_)
                           intro v6 w6 hown6 hg6 hat6
                           obtain ⟨VB2, vd2, rfl, _, _, _⟩ := own_slice hown6
                           have Hown6 := Lib.hid hown6
                           have Hg6 := Lib.hid hg6
                           have Hat6 := Lib.hid hat6
                           clear hown6 hg6 hat6)
                        | fail)
                      go_roundw
                      case rel =>
                        have hwa : Below wr.heap.size wr ((w5.alloc (.cells #[.slice E rn ec] 34)).alloc (.cells #[.int .i64 (s : Int), .slice E rn ec] 36)) := (Hb5.out.alloc (by omega) _).alloc (by simp; omega) _
                        refine ⟨j + 1, Z2 ++ [(⟨(s : Int), rg⟩, ⟨E, ec⟩)], by go_num, by omega, ?_, Lib.hid (by rw [Hnx.out, if_pos trivial, ← List.append_assoc, ← HZ2.out]; simp [fcs]), Lib.hid (Hnx2.out (fun _ => by omega)), (Hbr2.out.trans (hwa.mono hsr2)).grown Hg6.out (by have := hwa.size; omega) (fun g e => own_base Hown.out g e)⟩
                        refine FtOwn.pushes HZo2.out _ (fun x hx => ?_) (fun x hx g e1 e2 => ?_) hwa (by rw [HZl.out]; exact Hg6.out) (by rw [HZl.out]; have h6 := Hown6.out; rw [← Hrn.out] at h6; exact h6) (by rw [HZl.out]; exact Hat6.out)
                        · rw [List.mem_singleton] at hx
                          subst hx
                          show World.ownsRow _ _ _ _ (.slice E rg.length ec) rg.length (rCells rg)
                          rw [Hrn.out]
                          exact ((ownsRow_below Hfx.out Hb5.out).alloc _).alloc _
                        · rw [List.mem_singleton] at hx
                          subst hx
                          rw [HZl.out] at e1
                          have h1 := own_base Hown.out g e1
                          have h2 := Hlt.out g (by rw [← Hrn.out]; exact e2)
                          omega
                      case measure => simp [intOf]; omega
                  · have hz1 : (z == (s : Int)) = false := by simpa using hz
                    go_wp2
                    go_roundw
                    case rel =>
                      refine ⟨j + 1, Z2, by go_num, by omega, ?_, Lib.hid (by rw [Hnx.out, if_neg hz, HZ2.out]), Lib.hid (Hnx2.out (fun h => absurd h hz)), Hbr2.out.alloc hsr2 _⟩
                      have := HZo2.out.below ((Below.refl wr.heap.size wr).alloc (Nat.le_refl _) (.cells #[.int .i64 z, .slice E rn ec] 77))
                      rw [HZl.out] at this
                      exact this
                    case measure => simp [intOf]; omega
                · obtain rfl : j = ln := by omega
                  have htk : F.take j = F := List.take_of_length_le (by rw [HFl.out]; exact Nat.le_refl _)
                  rw [htk] at HZ2 Hsm2
                  clear htk
                  go_wp2
                  go_roundw
                  case rel => exact ⟨s + 1, Z2, by go_num, by omega, by omega, HZo2.out, Lib.hid (by rw [HZ2.out, selU_succ]), Lib.hid (fun f hf h => by
                    rcases Int.lt_or_eq_of_le (show f.set ≤ (s : Int) by omega) with h2 | h2
                    · exact Hsmall.out f hf h2
                    · exact Hsm2.out f hf h2), Hbr2.out⟩
                  case measure => simp [intOf]; omega
            · obtain rfl : s = p2 := by omega
              have Hr := Lib.hid (Hall.out (fun f hf => Hsmall.out f hf (Hpos.out f hf).2))
              have hsh := Hsh.out
              have hsh' := Hsh'.out
              go_wp2
              go_ret2
              rw [Hr.out]
              exact ⟨Z, _, rfl, FtOwn.own (HZo.out.rebase (by omega)), HZ.out, Hbo.out.trans (Hbr.out.mono hso)⟩
end Go.Proofs.YtabcadpfhachoaaGreat

namespace Go.Proofs.YtabcadpfhachoaaGreat
open Go.RowKit
set_option linter.unusedVariables false
set_option linter.unusedSimpArgs false

/-- A list of rectangles that was broken in one of five ways. -/
def brkP (a : List R4) (k : Nat) (z : Int) : List R4 :=
  match a[k]? with
  | none => a
  | some q => if z = 0 then a.set k ⟨q.l, q.b, q.r + 1, q.t⟩ else if z = 1 then a.set k ⟨-1, q.b, q.r, q.t⟩ else if z = 2 then a ++ [q] else if z = 3 then (match a[0]? with | none => a | some p => (a.set 0 q).set k p) else a.set k ⟨q.l, q.b, q.r, q.b⟩
/-- What Broken makes of the tape, and what is left of it. -/
def mkBrk (r : List Int) (side most : Int) : List R4 × List Int :=
  if (mkReg r side most).1.length = 0 then mkReg r side most
  else if oneB (mkReg r side most).2 6 then (brkP (mkReg r side most).1 (nx (mkReg r side most).2.tail (mkReg r side most).1.length).toNat (nx (mkReg r side most).2.tail.tail 5), (mkReg r side most).2.tail.tail.tail)
  else ((mkReg r side most).1, (mkReg r side most).2.tail)
theorem brkP_len (a : List R4) (k : Nat) (z : Int) : (brkP a k z).length ≤ a.length + 1 := by
  unfold brkP
  split
  · omega
  · split
    · simp
    · split
      · simp
      · split
        · simp
        · split
          · split
            · omega
            · simp
          · simp
theorem mkBrk_len (r : List Int) (side most : Int) (hs : 1 ≤ side ∧ side ≤ 1000) (hm : 0 ≤ most ∧ most ≤ 7) : (mkBrk r side most).1.length ≤ 92 := by
  have h1 := (mkReg_reg r side most hs.1 hs.2 hm.1 hm.2).len
  obtain ⟨k, hk⟩ := Int.eq_ofNat_of_zero_le hm.1
  subst hk
  simp only [Int.toNat_natCast] at h1
  have h2 : (2 * k - 1) * k ≤ 13 * 7 := Nat.mul_le_mul (by omega) (by omega)
  unfold mkBrk
  split
  · omega
  · split
    · exact Nat.le_trans (brkP_len _ _ _) (by omega)
    · show (mkReg r side k).1.length ≤ 92
      omega
theorem brk_some {a : List R4} {k : Nat} (h : k < a.length) : a[k]? = some a[k] := List.getElem?_eq_getElem h
theorem rCells_set4 (l : List R4) (i : Nat) (h : i < l.length) (z : R4) : rCells (l.set i z) = ((((rCells l).set (i * 4) (.int .i64 z.l)).set (i * 4 + 1) (.int .i64 z.b)).set (i * 4 + 2) (.int .i64 z.r)).set (i * 4 + 3) (.int .i64 z.t) := by
  obtain ⟨p, q, e1, e2, e3⟩ := rCells_split l i h
  rw [e3, e1, ← e2]
  simp [List.set_append]
theorem rCells_setL (l : List R4) (i : Nat) (h : i < l.length) (x : Int) : rCells (l.set i ⟨x, l[i].b, l[i].r, l[i].t⟩) = (rCells l).set (i * 4) (.int .i64 x) := by
  obtain ⟨p, q, e1, e2, e3⟩ := rCells_split l i h
  rw [e3, e1, ← e2]
  simp [List.set_append]

theorem rCells_set0 (l : List R4) (h : 0 < l.length) (z : R4) : rCells (l.set 0 z) = ((((rCells l).set 0 (.int .i64 z.l)).set 1 (.int .i64 z.b)).set 2 (.int .i64 z.r)).set 3 (.int .i64 z.t) := rCells_set4 l 0 h z
theorem own_rectB {w : World} {base g n c : Nat} {l : List R4} (h : w.ownsRow base 42 4 (.slice (some ⟨g, 0, none⟩) n c) n (rCells l)) (i : Nat) (hi : i < l.length) (z : R4) :
    ((((w.setCell ⟨g, i * 4, none⟩ (.int .i64 z.l)).setCell ⟨g, i * 4 + 1, none⟩ (.int .i64 z.b)).setCell ⟨g, i * 4 + 2, none⟩ (.int .i64 z.r)).setCell ⟨g, i * 4 + 3, none⟩ (.int .i64 z.t)).ownsRow base 42 4 (.slice (some ⟨g, 0, none⟩) n c) n (rCells (l.set i z)) := by
  rw [rCells_set4 l i hi z]
  exact own_setN (own_setN (own_setN (own_setN h _ _) _ _) _ _) _ _
theorem own_rect0 {w : World} {base g n c : Nat} {l : List R4} (h : w.ownsRow base 42 4 (.slice (some ⟨g, 0, none⟩) n c) n (rCells l)) (hi : 0 < l.length) (z : R4) :
    ((((w.setCell ⟨g, 0, none⟩ (.int .i64 z.l)).setCell ⟨g, 1, none⟩ (.int .i64 z.b)).setCell ⟨g, 2, none⟩ (.int .i64 z.r)).setCell ⟨g, 3, none⟩ (.int .i64 z.t)).ownsRow base 42 4 (.slice (some ⟨g, 0, none⟩) n c) n (rCells (l.set 0 z)) := own_rectB h 0 hi z
theorem only4 {a w : World} {g : Nat} (h : a.grownBy w (some g)) {i j k l : Nat} {x y z u : Value} : a.grownBy ((((w.setCell ⟨g, i, none⟩ x).setCell ⟨g, j, none⟩ y).setCell ⟨g, k, none⟩ z).setCell ⟨g, l, none⟩ u) (some g) :=
  only_setCell (only_setCell (only_setCell (only_setCell h (.inl rfl) _) (.inl rfl) _) (.inl rfl) _) (.inl rfl) _
/-- What Broken has behind its turns: the list, the tape, the block of the result. -/
structure BrkW (w wx : World) (g : Nat) (v : Value) (l : List R4) (r : List Int) : Prop where
  own : wx.ownsRow (w.heap.size + 1) 42 4 v l.length (rCells l)
  tape : TapeAt wx g r
  grown : w.grownBy wx (some g)
  row : wx.heap[w.heap.size]? = some (.cells #[.slice none 0 0] 34 (0, 0))
theorem BrkW.size {w wx : World} {g : Nat} {v : Value} {l : List R4} {r : List Int} (h : BrkW w wx g v l r) : w.heap.size < wx.heap.size := by
  rcases Nat.lt_or_ge w.heap.size wx.heap.size with h1 | h1
  · exact h1
  · have := h.row; rw [Array.getElem?_eq_none h1] at this; cases this
theorem BrkW.c {w wx : World} {g : Nat} {v : Value} {l : List R4} {r : List Int} (h : BrkW w wx g v l r) : wx.cell? ⟨w.heap.size, 0, none⟩ = some (.slice none 0 0) := cell_of_row _ _ 0 _ _ _ h.row
theorem BrkW.f {w wx : World} {g : Nat} {v : Value} {l : List R4} {r : List Int} (h : BrkW w wx g v l r) : wx.frozen? ⟨w.heap.size, 0, none⟩ = false := frozen_of_row _ _ 0 _ _ h.row
theorem BrkW.same {w wx : World} {g : Nat} {v : Value} {l : List R4} {r : List Int} (h : BrkW w wx g v l r) (u : Value) : (wx.setCell ⟨w.heap.size, 0, none⟩ u).cell? ⟨w.heap.size, 0, none⟩ = some u := by
  rw [cell_of_row _ w.heap.size 0 _ _ _ (heap_setCell_same wx w.heap.size 0 _ _ _ h.row)]
  simp
theorem BrkW.ends {w wx : World} {g : Nat} {v : Value} {l : List R4} {r : List Int} (h : BrkW w wx g v l r) (hg : g < w.heap.size) : RegTPost w g (l, r) (.returned (.agg #[v])) (wx.setCell ⟨w.heap.size, 0, none⟩ v) := by
  refine ⟨v, rfl, ?_, ?_, ?_⟩
  · exact own_other (own_rebase h.own (by omega)) (only_setCell (g := w.heap.size) (World.grownBy.refl _ _) (.inl rfl) _) (fun k hk e => by injection e with e; have := own_base h.own k hk; omega)
  · exact h.tape.setCell (by simp; omega) _
  · exact only_setCell h.grown (.inr (Nat.le_refl _)) _
/-- A step that changes only the tape, or what is new. -/
theorem BrkW.step {w wx wy : World} {g : Nat} {v : Value} {l : List R4} {r r' : List Int} (h : BrkW w wx g v l r) (hg : wx.grownBy wy (some g)) (hlt : g < w.heap.size) (ht : TapeAt wy g r') : BrkW w wy g v l r' :=
  ⟨ownsRow_only h.own hg (by omega), ht, only_trans h.grown hg, (hg.block _ h.size (by intro e; injection e; omega)).trans h.row⟩
/-- The row is turned. -/
theorem BrkW.turn {w wx wy : World} {g G n c : Nat} {l l' : List R4} {r : List Int} (h : BrkW w wx g (.slice (some ⟨G, 0, none⟩) n c) l r) (hlt : g < w.heap.size) (hG : w.heap.size + 1 ≤ G) (hg : wx.grownBy wy (some G)) (ho : wy.ownsRow (w.heap.size + 1) 42 4 (.slice (some ⟨G, 0, none⟩) n c) n (rCells l')) (hn : l'.length = n) : BrkW w wy g (.slice (some ⟨G, 0, none⟩) n c) l' r := by
  subst hn
  refine ⟨ho, h.tape.grown hg (fun q hq => ?_), only_grown h.grown hg (fun q hq => by injection hq with hq; omega), (hg.block _ h.size (by intro e; injection e; omega)).trans h.row⟩
  injection hq with hq
  omega
/-- The row has grown. -/
theorem BrkW.more {w wx wy : World} {g : Nat} {v v' : Value} {l l' : List R4} {r : List Int} {row : Option Nat} (h : BrkW w wx g v l r) (hlt : g < w.heap.size) (hr : ∀ q, row = some q → w.heap.size + 1 ≤ q) (hg : wx.grownBy wy row) (ho : wy.ownsRow (w.heap.size + 1) 42 4 v' l'.length (rCells l')) : BrkW w wy g v' l' r := by
  refine ⟨ho, h.tape.grown hg (fun q hq => ?_), only_grown h.grown hg (fun q hq => by have := hr q hq; omega), (hg.block _ h.size (by intro e; have := hr _ e.symm; omega)).trans h.row⟩
  have := hr q hq
  omega
theorem BrkW.alloc {w wx : World} {g : Nat} {v : Value} {l : List R4} {r : List Int} (h : BrkW w wx g v l r) (hlt : g < w.heap.size) (o : Obj) : BrkW w (wx.alloc o) g v l r := h.step (only_alloc (World.grownBy.refl _ _) _) hlt (h.tape.alloc _)

theorem World.drew_brk {w wx : World} {g : Nat} {v : Value} {l : List R4} {r : List Int} (h : BrkW w wx g v l r) : BrkW w wx.drew g v l r := ⟨h.own.drew, h.tape.drew, only_drew h.grown, h.row⟩

set_option maxHeartbeats 16000000 in
set_option maxRecDepth 100000 in
theorem broken_any (g : Nat) (r : List Int) (side most : Int) (w : World) (ht : TapeAt w g r) (hs : 1 ≤ side ∧ side ≤ 1000) (hm : 0 ≤ most ∧ most ≤ 7) :
    Calls Tryz.prog 13 #[.pointer (some ⟨g, 0, none⟩), .int .i64 side, .int .i64 most] w (RegTPost w g (mkBrk r side most)) := by
  obtain ⟨i0, hi, hz0, hz1, hz2⟩ := info_parts Tryz.infoRect
  have hlt := ht.lt
  have HC := Lib.hid (fun W (hW : TapeAt W g r) => region_any g r side most W hW hs ⟨hm.1, by omega⟩)
  have HR := Lib.hid (mkReg_reg r side most hs.1 hs.2 hm.1 hm.2)
  obtain ⟨⟨ra, r1⟩, hp⟩ : ∃ p, mkReg r side most = p := ⟨_, rfl⟩
  rw [hp] at HC HR
  have Hbrk : Hid (mkBrk r side most = if ra.length = 0 then (ra, r1) else if oneB r1 6 then (brkP ra (nx r1.tail ra.length).toNat (nx r1.tail.tail 5), r1.tail.tail.tail) else (ra, r1.tail)) := Lib.hid (by unfold mkBrk; rw [hp])
  clear hp
  generalize mkBrk r side most = res at *
  have Hok : Hid (ra.all R4.ok = true) := Lib.hid (HR.out.ins.ok hs.2)
  have hn91 : ra.length ≤ 91 := by
    have h1 := HR.out.len
    obtain ⟨k, hk⟩ := Int.eq_ofNat_of_zero_le hm.1
    subst hk
    simp only [Int.toNat_natCast] at h1
    have h2 : (2 * k - 1) * k ≤ 13 * 7 := Nat.mul_le_mul (by omega) (by omega)
    omega
  clear HR
  obtain ⟨n, hn⟩ : ∃ n, ra.length = n := ⟨_, rfl⟩
  have Hn := Lib.hid hn
  rw [hn] at Hbrk hn91
  clear hn
  go_enter Tryz.func13, Tryz.ntmps13
  go_upto_region 1 with fail
  obtain ⟨wz, hwz⟩ : ∃ wz : World, wz = w.alloc (.cells #[.slice none 0 0] 34) := ⟨_, rfl⟩
  rw [← hwz]
  have HTz : Hid (TapeAt wz g r) := Lib.hid (by rw [hwz]; exact ht.alloc _)
  have Hrz : Hid (wz.heap[w.heap.size]? = some (.cells #[.slice none 0 0] 34 (0, 0))) := Lib.hid (by rw [hwz]; exact heap_alloc_new w _)
  have hsz : wz.heap.size = w.heap.size + 1 := by rw [hwz]; simp
  have Hgz : Hid (w.grownBy wz (some g)) := Lib.hid (by rw [hwz]; exact only_alloc (World.grownBy.refl _ _) _)
  clear hwz ht
  go_upto_region 2 with (first
    | (go_at_call 17
       refine (HC.out _ HTz.out).mono ?_
       rintro e w1 ⟨v1, rfl, hown1, ht1, hg1⟩
       simp only at hown1 ht1
       have Hown1 := Lib.hid hown1
       obtain ⟨A1, c1, rfl, hS1⟩ := SlR.of_own hown1
       rw [Hn.out] at hS1 ⊢
       have HS1 := Lib.hid hS1
       have HT1 := Lib.hid ht1
       have hs1 := hg1.size
       have Hr1 : Hid (w1.heap[w.heap.size]? = some (.cells #[.slice none 0 0] 34 (0, 0))) := Lib.hid ((hg1.block _ (by omega) (by intro e; injection e; omega)).trans Hrz.out)
       have Hg1 : Hid (w.grownBy w1 (some g)) := Lib.hid (only_trans Hgz.out hg1)
       clear hS1 ht1 hg1 hown1)
    | fail)
  obtain ⟨wa, hwa⟩ : ∃ wa : World, wa = w1.alloc (.cells #[.slice A1 n c1] 34) := ⟨_, rfl⟩
  rw [← hwa]
  have HSa : Hid (SlR wa A1 n c1 ra) := Lib.hid (by rw [hwa]; exact HS1.out.alloc _)
  have Hca : Hid (wa.heap[w1.heap.size]? = some (.cells #[.slice A1 n c1] 34 (0, 0))) := Lib.hid (by rw [hwa]; exact heap_alloc_new w1 _)
  have hsa : wa.heap.size = w1.heap.size + 1 := by rw [hwa]; simp
  have HWa : Hid (BrkW w wa g (.slice A1 n c1) ra r1) := Lib.hid (by
    rw [hwa]
    refine ⟨?_, HT1.out.alloc _, only_alloc Hg1.out _, (Below.heap_alloc w1 _ _ (by omega)).trans Hr1.out⟩
    have h1 := (own_rebase Hown1.out (base' := w.heap.size + 1) (by omega)).alloc (.cells #[.slice A1 n c1] 34)
    rwa [Hn.out] at h1 ⊢)
  have ca := cell_of_row wa w1.heap.size 0 _ _ _ Hca.out
  clear hwa HS1 HT1 Hr1 Hg1 Hown1 HTz Hrz Hgz HC
  by_cases hn0 : n = 0
  · have Hres : Hid (res = (ra, r1)) := Lib.hid (by rw [Hbrk.out, if_pos hn0])
    have hn0' : ((n : Nat) : Int) = 0 := by omega
    have hd0 : decide (n = 0) = true := decide_eq_true hn0
    have HWz : Hid (BrkW w wa g (.slice A1 0 c1) ra r1) := Lib.hid (by have := HWa.out; rwa [hn0] at this)
    have cE := HWz.out.c
    have fE := HWz.out.f
    have sE := HWz.out.same (.slice A1 0 c1)
    go_wp2
    refine bodyPost_ret (v := .agg #[.slice A1 0 c1]) (by simp [results, Tryz.results13, go_sem, *]) rfl ?_
    rw [Hres.out]
    exact HWz.out.ends hlt
  · have hn0N : 0 < n := by omega
    have hn0' : ¬ ((n : Nat) : Int) = 0 := by omega
    have hd0 : decide (n = 0) = false := decide_eq_false hn0
    have HO := Lib.hid (one_any g r1 6 wa HWa.out.tape (by omega) (by omega))
    have Hbrk2 : Hid (res = if oneB r1 6 then (brkP ra (nx r1.tail n).toNat (nx r1.tail.tail 5), r1.tail.tail.tail) else (ra, r1.tail)) := Lib.hid (by rw [Hbrk.out, if_neg hn0])
    clear Hbrk
    generalize oneB r1 6 = y at *
    cases y
    case false =>
      have Hres : Hid (res = (ra, r1.tail)) := Lib.hid (by rw [Hbrk2.out]; rfl)
      clear Hbrk2
      go_upto_region 3 with (first
        | (go_at_call 36
           refine HO.out.mono ?_
           rintro e w2 ⟨rfl, ht2, hg2⟩
           have HW2 := Lib.hid (HWa.out.step hg2 hlt ht2)
           have c2 := ((hg2.block _ (by omega) (by intro e; injection e; omega)).trans Hca.out)
           have ca2 := cell_of_row w2 w1.heap.size 0 _ _ _ c2
           clear ht2 hg2 c2)
        | fail)
      have cE := HW2.out.c
      have fE := HW2.out.f
      have sE := HW2.out.same (.slice A1 n c1)
      go_wp2
      refine bodyPost_ret (v := .agg #[.slice A1 n c1]) (by simp [results, Tryz.results13, go_sem, *]) rfl ?_
      rw [Hres.out]
      exact HW2.out.ends hlt
    case true =>
      have hbk := nx_bd r1.tail n (by omega)
      have hbz := nx_bd r1.tail.tail 5 (by omega)
      have Hres : Hid (res = (brkP ra (nx r1.tail n).toNat (nx r1.tail.tail 5), r1.tail.tail.tail)) := Lib.hid (by rw [Hbrk2.out]; rfl)
      have HN1 := Lib.hid (fun W (hW : TapeAt W g r1.tail) => next_any g r1.tail n W hW (by omega))
      have HN2 := Lib.hid (fun W (hW : TapeAt W g r1.tail.tail) => next_any g r1.tail.tail 5 W hW (by omega))
      obtain ⟨k, hk⟩ := Int.eq_ofNat_of_zero_le hbk.1
      rw [hk] at Hres HN1 hbk
      clear Hbrk2 hk
      generalize nx r1.tail.tail 5 = z at *
      have hkn : k < n := by omega
      go_upto_region 5 with (first
        | (go_at_call 36
           refine HO.out.mono ?_
           rintro e w2 ⟨rfl, ht2, hg2⟩
           have HW2 := Lib.hid (HWa.out.step hg2 hlt ht2)
           have c2 := ((hg2.block _ (by omega) (by intro e; injection e; omega)).trans Hca.out)
           have ca2 := cell_of_row w2 w1.heap.size 0 _ _ _ c2
           have hs2 := hg2.size
           have ca3 : ∀ o, (w2.alloc o).cell? ⟨w1.heap.size, 0, none⟩ = some (.slice A1 n c1) := fun o => by rw [World.cell?_alloc_lt w2 o _ (show w1.heap.size < w2.heap.size by omega)]; exact ca2
           have HS2 : Hid (Reads w2 w2.heap.size 4 A1 n (rCells ra)) := Lib.hid (by
             obtain ⟨A', c', h1, h2, _, _⟩ := own_slice HW2.out.own
             injection h1 with h1 _ _
             subst h1
             rw [Hn.out] at h2
             exact h2.reads (by rw [rCells_len, Hn.out]))
           clear ht2 hg2 c2)
        | (at_builtin
           refine wpList_append_any _ rfl (.tmp 24) (.tmp 26) 32 rfl w2.heap.size 42 i0 _ 4 32 Tryz.underlying32 hi hz0 hz1 hz2 rfl (by omega) (.slice (some ⟨w2.heap.size, 0, none⟩) 0 0) 0 [] rfl (own_zero w2 _ _ _ (Nat.le_refl _)) w2.heap.size A1 n c1 (rCells ra) rfl (HS2.out.alloc (Nat.le_refl _) _) (rCells_one ra) (by simp only [maxLen]; omega) (by omega) (by simp) ?_
           intro v5 w5 hown5 hg5 hat5)
        | fail)
      simp only [Nat.zero_add, List.nil_append] at hown5
      have HW5 : Hid (BrkW w w5 g v5 ra r1.tail) := Lib.hid ((HW2.out.alloc hlt _).more hlt (by intro q hq; simp [Value.ownBlock] at hq; omega) hg5 (by have := own_rebase hown5 (base' := w.heap.size + 1) (by omega); rwa [Hn.out]))
      clear hg5 hat5 hown5 HW2 HS2 HWa HSa Hca
      obtain ⟨G, gc, rfl, hGb, hGl, _, _, _, _⟩ := own_at HW5.out.own (by rw [Hn.out]; omega)
      rw [Hn.out] at HW5 ⊢
      go_upto_region 6 with (first
        | (go_at_call 12
           refine (HN1.out _ HW5.out.tape).mono ?_
           rintro e w6 ⟨rfl, ht6, hg6⟩
           have HW6 := Lib.hid (HW5.out.step hg6 hlt ht6)
           clear ht6 hg6)
        | fail)
      go_upto_region 8 with (first
        | (go_at_call 12
           refine (HN2.out _ HW6.out.tape).mono ?_
           rintro e w7 ⟨rfl, ht7, hg7⟩
           have HW7 := Lib.hid (HW6.out.step hg7 hlt ht7)
           clear ht7 hg7)
        | fail)
      obtain ⟨G', gc', hGe, hGb7, hGl7, _, _, hcells, hfr⟩ := own_at HW7.out.own (by rw [Hn.out]; omega)
      rw [Hn.out] at hGe
      injection hGe with hGe _ hGc
      injection hGe with hGe
      injection hGe with hGe _ _
      subst hGe hGc
      have hkr : k < ra.length := by rw [Hn.out]; exact hkn
      have h0r : 0 < ra.length := by rw [Hn.out]; omega
      have Hown7 : Hid (w7.ownsRow (w.heap.size + 1) 42 4 (.slice (some ⟨G, 0, none⟩) n gc) n (rCells ra)) := Lib.hid (by have := HW7.out.own; rwa [Hn.out] at this)
      have hq := brk_some hkr
      have hp0 := brk_some h0r
      have HqOk : Hid (0 ≤ ra[k].l ∧ ra[k].l < ra[k].r ∧ ra[k].r ≤ 16384 ∧ 0 ≤ ra[k].b ∧ ra[k].b < ra[k].t ∧ ra[k].t ≤ 16384) := Lib.hid ((R4.ok_iff _).1 (List.all_eq_true.1 Hok.out _ (List.getElem_mem hkr)))
      obtain ⟨k1, k2, k3, k4⟩ := rCells_at ra k hkr
      obtain ⟨l1, l2, l3, l4⟩ := rCells_at ra 0 h0r
      have d1 := hcells _ _ k1
      have d2 := hcells _ _ k2
      have d3 := hcells _ _ k3
      have d4 := hcells _ _ k4
      have e1 := hfr (k * 4)
      have e2 := hfr (k * 4 + 1)
      have e3 := hfr (k * 4 + 2)
      have e4 := hfr (k * 4 + 3)
      have HC3 := Lib.hid (And.intro (And.intro (hcells _ _ l1) (hcells _ _ l2)) (And.intro (And.intro (hcells _ _ l3) (hcells _ _ l4)) (And.intro (And.intro (hfr 0) (hfr 1)) (And.intro (hfr 2) (hfr 3)))))
      have hkn2 : (k : Int) < (n : Int) := by omega
      have hk0 : (0 : Int) ≤ (k : Int) := by omega
      have hn00 : (0 : Int) < (n : Int) := by omega
      obtain ⟨q, hqq⟩ : ∃ q, ra[k] = q := ⟨_, rfl⟩
      have Hqq := Lib.hid hqq
      rw [hqq] at hq d1 d2 d3 d4 HqOk
      have hqr := HqOk.out
      have hwr : IntKind.i64.wrap (q.r + 1) = q.r + 1 := IntWalk.i64_in _ (by omega)
      clear hcells hfr k1 k2 k3 k4 l1 l2 l3 l4 hqq hqr HN1 HN2
      rcases (show z = 0 ∨ z = 1 ∨ z = 2 ∨ z = 3 ∨ z = 4 by omega) with rfl | rfl | rfl | rfl | rfl
      · skip
        have Hres2 : Hid (res = (ra.set k ⟨q.l, q.b, q.r + 1, q.t⟩, r1.tail.tail.tail)) := Lib.hid (by rw [Hres.out]; simp [brkP, hq])
        have Hset := Lib.hid (rCells_setR ra k hkr (q.r + 1))
        rw [Hqq.out] at Hset
        clear HC3
        go_upto_region 16 with fail
        obtain ⟨wx, hwx⟩ : ∃ wx : World, wx = w7.setCell ⟨G, k * 4 + 2, none⟩ (.int .i64 (q.r + 1)) := ⟨_, rfl⟩
        rw [← hwx]
        have HWx : Hid (BrkW w wx g (.slice (some ⟨G, 0, none⟩) n gc) (ra.set k ⟨q.l, q.b, q.r + 1, q.t⟩) r1.tail.tail.tail) := Lib.hid (by
          rw [hwx]
          refine HW7.out.turn hlt hGb (only_setCell (World.grownBy.refl _ _) (.inl rfl) _) ?_ (by rw [List.length_set, Hn.out])
          rw [Hset.out]
          exact own_setN Hown7.out _ _)
        clear hwx
        have cE := HWx.out.c
        have fE := HWx.out.f
        have sE := HWx.out.same (.slice (some ⟨G, 0, none⟩) n gc)
        go_wp2
        refine bodyPost_ret (v := .agg #[.slice (some ⟨G, 0, none⟩) n gc]) (by simp [results, Tryz.results13, go_sem, *]) rfl ?_
        rw [Hres2.out]
        exact HWx.out.ends hlt
      · skip
        have Hres2 : Hid (res = (ra.set k ⟨-1, q.b, q.r, q.t⟩, r1.tail.tail.tail)) := Lib.hid (by rw [Hres.out]; simp [brkP, hq])
        have Hset := Lib.hid (rCells_setL ra k hkr (-1))
        rw [Hqq.out] at Hset
        clear HC3
        go_upto_region 16 with fail
        obtain ⟨wx, hwx⟩ : ∃ wx : World, wx = w7.setCell ⟨G, k * 4, none⟩ (.int .i64 (-1)) := ⟨_, rfl⟩
        rw [← hwx]
        have HWx : Hid (BrkW w wx g (.slice (some ⟨G, 0, none⟩) n gc) (ra.set k ⟨-1, q.b, q.r, q.t⟩) r1.tail.tail.tail) := Lib.hid (by
          rw [hwx]
          refine HW7.out.turn hlt hGb (only_setCell (World.grownBy.refl _ _) (.inl rfl) _) ?_ (by rw [List.length_set, Hn.out])
          rw [Hset.out]
          exact own_setN Hown7.out _ _)
        clear hwx
        have cE := HWx.out.c
        have fE := HWx.out.f
        have sE := HWx.out.same (.slice (some ⟨G, 0, none⟩) n gc)
        go_wp2
        refine bodyPost_ret (v := .agg #[.slice (some ⟨G, 0, none⟩) n gc]) (by simp [results, Tryz.results13, go_sem, *]) rfl ?_
        rw [Hres2.out]
        exact HWx.out.ends hlt
      · have Hres2 : Hid (res = (ra ++ [q], r1.tail.tail.tail)) := Lib.hid (by rw [Hres.out]; simp [brkP, hq])
        clear HC3
        go_upto_region 16 with (first
          | (at_builtin
             refine wpList_append_any _ rfl (.tmp 61) (.tmp 66) _ rfl (w.heap.size + 1) 42 i0 _ 4 32 Tryz.underlying32 hi hz0 hz1 hz2 rfl (by omega) (.slice (some ⟨G, 0, none⟩) n gc) n (rCells ra) rfl
               (Hown7.out.alloc _) _ _ 1 1 [.int .i64 q.l, .int .i64 q.b, .int .i64 q.r, .int .i64 q.t] rfl ⟨rfl, fun _ => ⟨_, rfl, Nat.lt_succ_self _, fun j u hu => (by exact news_any _ _ _ j u hu)⟩⟩ (by simp [Value.oneCell']) (by simp only [maxLen]; omega) (by omega) (by simp; omega) ?_
             intro v8 w8 hown8 hg8 hat8)
          | fail)
        have HW8 : Hid (BrkW w w8 g v8 (ra ++ [q]) r1.tail.tail.tail) := Lib.hid ((HW7.out.alloc hlt _).more hlt (by intro x hx; simp [Value.ownBlock] at hx; omega) hg8 (by rw [List.length_append, rCells_snoc, Hn.out]; exact hown8))
        have hl8 : (ra ++ [q]).length = n + 1 := by rw [List.length_append, Hn.out]; rfl
        clear hg8 hat8 hown8
        obtain ⟨A8, c8, rfl, _, _, _⟩ := own_slice HW8.out.own
        rw [hl8] at HW8 ⊢
        have cE := HW8.out.c
        have fE := HW8.out.f
        have sE := HW8.out.same (.slice A8 (n + 1) c8)
        go_wp2
        refine bodyPost_ret (v := .agg #[.slice A8 (n + 1) c8]) (by simp [results, Tryz.results13, go_sem, *]) rfl ?_
        rw [Hres2.out]
        exact HW8.out.ends hlt
      · have Hres2 : Hid (res = ((ra.set 0 q).set k ra[0], r1.tail.tail.tail)) := Lib.hid (by rw [Hres.out]; simp [brkP, hq, hp0])
        obtain ⟨⟨l1, l2⟩, ⟨l3, l4⟩, ⟨m1, m2⟩, m3, m4⟩ := HC3.out
        obtain ⟨p, hp⟩ : ∃ p, ra[0] = p := ⟨_, rfl⟩
        rw [hp] at Hres2 l1 l2 l3 l4
        simp only [Nat.zero_mul, Nat.zero_add] at l1 l2 l3 l4
        have Hp0 := Lib.hid hp
        clear hp hp0 HC3
        by_cases hk00 : k = 0
        · subst hk00
          obtain rfl : q = p := by rw [← Hqq.out, ← Hp0.out]
          simp only [Nat.zero_mul, Nat.zero_add] at d1 d2 d3 d4 e1 e2 e3 e4
          go_upto_region 15 with fail
          go_region
          obtain ⟨wx, hwx⟩ : ∃ wx : World, wx = ((((((((w7.setCell ⟨G, 0, none⟩ (.int .i64 q.l)).setCell ⟨G, 1, none⟩ (.int .i64 q.b)).setCell ⟨G, 2, none⟩ (.int .i64 q.r)).setCell ⟨G, 3, none⟩ (.int .i64 q.t)).setCell ⟨G, 0, none⟩ (.int .i64 q.l)).setCell ⟨G, 1, none⟩ (.int .i64 q.b)).setCell ⟨G, 2, none⟩ (.int .i64 q.r)).setCell ⟨G, 3, none⟩ (.int .i64 q.t)).drew := ⟨_, rfl⟩
          rw [← hwx]
          have HWx : Hid (BrkW w wx g (.slice (some ⟨G, 0, none⟩) n gc) ((ra.set 0 q).set 0 q) r1.tail.tail.tail) := Lib.hid (by
            rw [hwx]
            refine World.drew_brk (HW7.out.turn hlt hGb (only4 (only4 (World.grownBy.refl _ _))) ?_ (by rw [List.length_set, List.length_set, Hn.out]))
            exact own_rect0 (own_rect0 Hown7.out h0r q) (by rw [List.length_set]; exact h0r) q)
          clear hwx
          have cE := HWx.out.c
          have fE := HWx.out.f
          have sE := HWx.out.same (.slice (some ⟨G, 0, none⟩) n gc)
          go_wp2
          refine bodyPost_ret (v := .agg #[.slice (some ⟨G, 0, none⟩) n gc]) (by simp [results, Tryz.results13, go_sem, *]) rfl ?_
          rw [Hres2.out]
          exact HWx.out.ends hlt
        · have hk01 : ¬ 0 = k := fun h => hk00 h.symm
          have hk1 : ¬ k * 4 = 1 := by omega
          have hk2 : ¬ k * 4 = 2 := by omega
          have hk3 : ¬ k * 4 = 3 := by omega
          have hk4 : ¬ 1 = k * 4 := by omega
          have hk5 : ¬ 2 = k * 4 := by omega
          have hk6 : ¬ 3 = k * 4 := by omega
          go_upto_region 15 with fail
          go_region
          obtain ⟨wx, hwx⟩ : ∃ wx : World, wx = ((((((((w7.setCell ⟨G, 0, none⟩ (.int .i64 q.l)).setCell ⟨G, 1, none⟩ (.int .i64 q.b)).setCell ⟨G, 2, none⟩ (.int .i64 q.r)).setCell ⟨G, 3, none⟩ (.int .i64 q.t)).setCell ⟨G, k * 4, none⟩ (.int .i64 p.l)).setCell ⟨G, k * 4 + 1, none⟩ (.int .i64 p.b)).setCell ⟨G, k * 4 + 2, none⟩ (.int .i64 p.r)).setCell ⟨G, k * 4 + 3, none⟩ (.int .i64 p.t)).drew := ⟨_, rfl⟩
          rw [← hwx]
          have HWx : Hid (BrkW w wx g (.slice (some ⟨G, 0, none⟩) n gc) ((ra.set 0 q).set k p) r1.tail.tail.tail) := Lib.hid (by
            rw [hwx]
            refine World.drew_brk (HW7.out.turn hlt hGb (only4 (only4 (World.grownBy.refl _ _))) ?_ (by rw [List.length_set, List.length_set, Hn.out]))
            exact own_rectB (own_rect0 Hown7.out h0r q) k (by rw [List.length_set]; exact hkr) p)
          clear hwx
          have cE := HWx.out.c
          have fE := HWx.out.f
          have sE := HWx.out.same (.slice (some ⟨G, 0, none⟩) n gc)
          go_wp2
          refine bodyPost_ret (v := .agg #[.slice (some ⟨G, 0, none⟩) n gc]) (by simp [results, Tryz.results13, go_sem, *]) rfl ?_
          rw [Hres2.out]
          exact HWx.out.ends hlt
      · skip
        have Hres2 : Hid (res = (ra.set k ⟨q.l, q.b, q.r, q.b⟩, r1.tail.tail.tail)) := Lib.hid (by rw [Hres.out]; simp [brkP, hq])
        have Hset := Lib.hid (rCells_setT ra k hkr (q.b))
        rw [Hqq.out] at Hset
        clear HC3
        go_upto_region 16 with fail
        obtain ⟨wx, hwx⟩ : ∃ wx : World, wx = w7.setCell ⟨G, k * 4 + 3, none⟩ (.int .i64 (q.b)) := ⟨_, rfl⟩
        rw [← hwx]
        have HWx : Hid (BrkW w wx g (.slice (some ⟨G, 0, none⟩) n gc) (ra.set k ⟨q.l, q.b, q.r, q.b⟩) r1.tail.tail.tail) := Lib.hid (by
          rw [hwx]
          refine HW7.out.turn hlt hGb (only_setCell (World.grownBy.refl _ _) (.inl rfl) _) ?_ (by rw [List.length_set, Hn.out])
          rw [Hset.out]
          exact own_setN Hown7.out _ _)
        clear hwx
        have cE := HWx.out.c
        have fE := HWx.out.f
        have sE := HWx.out.same (.slice (some ⟨G, 0, none⟩) n gc)
        go_wp2
        refine bodyPost_ret (v := .agg #[.slice (some ⟨G, 0, none⟩) n gc]) (by simp [results, Tryz.results13, go_sem, *]) rfl ?_
        rw [Hres2.out]
        exact HWx.out.ends hlt
end Go.Proofs.YtabcadpfhachoaaGreat

namespace Go.Proofs.YtabcadpfhachoaaGreat
open Go.ChangeShapes Go.WideShapes Go.ChangeAt Go.RowKit
set_option linter.unusedVariables false
set_option linter.unusedSimpArgs false

theorem flat_at {α : Type} (f : α → List Value) (k : Nat) (hk : 0 < k) : ∀ (L : List α), (∀ x ∈ L, (f x).length = k) → ∀ j (hj : j / k < L.length), (L.flatMap f)[j]? = (f (L[j / k]'hj))[j % k]?
  | [], _, j, hj => by simp at hj
  | a :: t, h, j, hj => by
    rw [List.flatMap_cons]
    have ha := h a (by simp)
    by_cases hlt : j < k
    · rw [List.getElem?_append_left (by omega)]
      have e1 : j / k = 0 := Nat.div_eq_of_lt hlt
      have e2 : j % k = j := Nat.mod_eq_of_lt hlt
      simp only [e1, e2, List.getElem_cons_zero]
    · rw [List.getElem?_append_right (by omega), ha]
      have e1 : j / k = (j - k) / k + 1 := Nat.div_eq_sub_div hk (by omega)
      have e2 : j % k = (j - k) % k := by rw [Nat.mod_eq_sub_mod (by omega)]
      have hj' : (j - k) / k < t.length := by rw [e1] at hj; simpa using hj
      rw [flat_at f k hk t (fun x hx => h x (by simp [hx])) (j - k) hj']
      simp only [e1, e2, List.getElem_cons_succ]
theorem lies_of {α : Type} (f : α → List Value) (k : Nat) (hk : 0 < k) (L : List α) (hf : ∀ x ∈ L, (f x).length = k) {W : World} {a : Addr} (h : ∀ i (hi : i < L.length), W.cells? 0 (a.add (i * k)) k = some (f L[i])) : Lies W (some a) L.length (L.flatMap f) := by
  by_cases h0 : L.length = 0
  · exact .inl h0
  · obtain ⟨b, off, spot⟩ := a
    have hl0 := hf L[0] (List.getElem_mem (by omega))
    obtain ⟨_, _, hat0⟩ := World.cells?_some (h 0 (by omega))
    have hc00 := hat0 0 hk
    have hz : ∃ z, (f L[0])[0]? = some z := ⟨_, List.getElem?_eq_getElem (by omega)⟩
    obtain ⟨z, hz⟩ := hz
    rw [hz] at hc00
    have hspot : spot = none := by simpa [Addr.add] using World.cell?_spot hc00
    subst hspot
    have hb := World.block_lt_of_cell? W _ hc00
    rw [add_none, add_none] at hb
    refine .inr ⟨b, off, rfl, hb, fun j u hu => ?_⟩
    have hL : (L.flatMap f).length = L.length * k := by
      have : ∀ M : List α, (∀ x ∈ M, (f x).length = k) → (M.flatMap f).length = M.length * k := by
        intro M
        induction M with
        | nil => intro _; simp
        | cons x t ih => intro hM; rw [List.flatMap_cons, List.length_append, hM x (by simp), ih fun y hy => hM y (by simp [hy]), List.length_cons, Nat.succ_mul]; omega
      exact this L hf
    have hj : j < L.length * k := by
      rcases Nat.lt_or_ge j (L.flatMap f).length with h | h
      · omega
      · rw [List.getElem?_eq_none h] at hu; cases hu
    have hi : j / k < L.length := (Nat.div_lt_iff_lt_mul hk).2 hj
    obtain ⟨_, _, hat⟩ := World.cells?_some (h (j / k) hi)
    have hx := hat (j % k) (Nat.mod_lt _ hk)
    rw [add_none, add_none] at hx
    have ej : off + j / k * k + j % k = off + j := by
      have := Nat.div_add_mod j k
      rw [Nat.mul_comm] at this
      omega
    rw [ej] at hx
    rw [hx, ← hu, flat_at f k hk L hf j hi]
theorem rg_flat (l : RL) : l.flatMap (fun x => [rgC x]) = rgCells l := by
  unfold rgCells
  induction l with
  | nil => rfl
  | cons a t ih => rw [List.flatMap_cons, ih]; rfl
theorem cFace : Tryz.prog.cellsOf 36 = 2 := by kernel_rfl
set_option maxRecDepth 100000 in
theorem regs_cells {H : Type} {enc : TypeId × Value → H} {W : World} {fuel : Nat} {v : Value} {x : DataW H × List MemPlace} {held : Bool} (h : DataW.trod enc Tryz.prog W 0 (fun _ => true) held fuel 25 [v] = some x) :
    ∃ (A : Option Addr) (c : Nat) (L : RL), v = .slice A L.length c ∧ SlG W A L.length c L := by
  rcases Go.Deep.open_slice Tryz.underlying25 h with ⟨hcs, _⟩ | ⟨a, len, cap, m, n', D, Pl, hcs, _, hl, hm, hmm, _, hel⟩
  · injection hcs with hcs
    exact ⟨none, 0, [], hcs, rfl, Nat.le_refl _, Nat.zero_le _, .inl rfl, fun x hx => by cases hx⟩
  · injection hcs with hcs
    have hm' : m = cap := by simpa using hmm
    subst hm'
    rw [cRegion] at hel
    obtain ⟨L, hL, hP⟩ := gatherL (P := fun i (f : List R4 × LV) => W.cells? 0 (a.add (i * 1)) 1 = some [rgC f] ∧ SlR W f.2.a f.1.length f.2.c f.1) len (fun i hi => by
      obtain ⟨cs', hc, ht⟩ := hel i (by omega)
      obtain ⟨A, c, r, rfl, hS⟩ := region_cells ht
      exact ⟨(r, ⟨A, c⟩), hc, hS⟩)
    subst hL
    refine ⟨some a, m, L, hcs, rfl, hl, hm, ?_, fun x hx => ?_⟩
    · rw [← rg_flat]
      exact lies_of (fun x => [rgC x]) 1 (by omega) L (fun _ _ => rfl) (fun i hi => (hP i hi).1)
    · obtain ⟨i, hi, rfl⟩ := List.getElem_of_mem hx
      exact (hP i hi).2
set_option maxRecDepth 100000 in
theorem face_cells {H : Type} {enc : TypeId × Value → H} {W : World} {fuel : Nat} {cs : List Value} {x : DataW H × List MemPlace} {held : Bool} (h : DataW.trod enc Tryz.prog W 0 (fun _ => true) held fuel 36 cs = some x) :
    ∃ f : Fc × LV, cs = fcC f ∧ SlR W f.2.a f.1.rg.length f.2.c f.1.rg := by
  obtain ⟨xs, n, rfl, _, hlen, hxl, hf⟩ := DataW.trod_struct Tryz.underlying36 h
  rw [cFace] at hlen
  match cs, hlen with
  | [c0, c1], _ =>
    match xs, hxl with
    | [x0, x1], _ =>
      have g0 : DataW.trod enc Tryz.prog W 0 (fun _ => true) held n 3 [c0] = some x0 := by have := hf 0 _ rfl; simpa [cInt] using this
      have g1 : DataW.trod enc Tryz.prog W 0 (fun _ => true) held n 34 [c1] = some x1 := by have := hf 1 _ rfl; simpa [cRegion] using this
      obtain ⟨a0, e0, _, _⟩ := DataW.trod_int Tryz.underlying3 g0
      obtain ⟨A, c, r, e1, hS⟩ := region_cells g1
      simp only [List.cons.injEq, and_true] at e0 e1
      exact ⟨(⟨a0, r⟩, ⟨A, c⟩), by rw [e0, e1]; rfl, hS⟩
set_option maxRecDepth 100000 in
theorem faces_cells {H : Type} {enc : TypeId × Value → H} {W : World} {fuel : Nat} {v : Value} {x : DataW H × List MemPlace} {held : Bool} (h : DataW.trod enc Tryz.prog W 0 (fun _ => true) held fuel 28 [v] = some x) :
    ∃ (A : Option Addr) (c : Nat) (L : FL), v = .slice A L.length c ∧ SlF W A L.length c L := by
  rcases Go.Deep.open_slice Tryz.underlying28 h with ⟨hcs, _⟩ | ⟨a, len, cap, m, n', D, Pl, hcs, _, hl, hm, hmm, _, hel⟩
  · injection hcs with hcs
    exact ⟨none, 0, [], hcs, rfl, Nat.le_refl _, Nat.zero_le _, .inl rfl, fun x hx => by cases hx⟩
  · injection hcs with hcs
    have hm' : m = cap := by simpa using hmm
    subst hm'
    rw [cFace] at hel
    obtain ⟨L, hL, hP⟩ := gatherL (P := fun i (f : Fc × LV) => W.cells? 0 (a.add (i * 2)) 2 = some (fcC f) ∧ SlR W f.2.a f.1.rg.length f.2.c f.1.rg) len (fun i hi => by
      obtain ⟨cs', hc, ht⟩ := hel i (by omega)
      obtain ⟨f, rfl, hS⟩ := face_cells ht
      exact ⟨f, hc, hS⟩)
    subst hL
    refine ⟨some a, m, L, hcs, rfl, hl, hm, ?_, fun x hx => ?_⟩
    · exact lies_of fcC 2 (by omega) L (fun _ _ => rfl) (fun i hi => (hP i hi).1)
    · obtain ⟨i, hi, rfl⟩ := List.getElem_of_mem hx
      exact (hP i hi).2
set_option maxRecDepth 100000 in
theorem open_regs {H : Type} {enc : TypeId × Value → H} {W : World} {r : Reach} {base : Nat} {v : Value} {d : DataW H} {p : List MemPlace}
    (hv : Value.okWide Tryz.prog W r base 25 v) (h : DataW.Trod enc Tryz.prog W 0 (fun _ => true) true 25 v d p) :
    ∃ (A : Option Addr) (c : Nat) (L : RL), v = .slice A L.length c ∧ SlG W A L.length c L := by
  obtain ⟨A, n, c, rfl⟩ := okWide_slice Tryz.underlying25 hv
  obtain ⟨fuel, hf⟩ := h
  exact regs_cells hf
set_option maxRecDepth 100000 in
theorem open_faces {H : Type} {enc : TypeId × Value → H} {W : World} {r : Reach} {base : Nat} {v : Value} {d : DataW H} {p : List MemPlace}
    (hv : Value.okWide Tryz.prog W r base 28 v) (h : DataW.Trod enc Tryz.prog W 0 (fun _ => true) true 28 v d p) :
    ∃ (A : Option Addr) (c : Nat) (L : FL), v = .slice A L.length c ∧ SlF W A L.length c L := by
  obtain ⟨A, n, c, rfl⟩ := okWide_slice Tryz.underlying28 hv
  obtain ⟨fuel, hf⟩ := h
  exact faces_cells hf
/-! ## Plain parts, and what stays where only the tape changes -/
theorem nil_rows (n : Nat) : (List.replicate n (([] : List R4))).flatten = [] := by
  induction n with
  | zero => rfl
  | succ n ih => rw [List.replicate_succ, List.flatten_cons, ih]; rfl
theorem mkBrk_two (r : List Int) (side : Int) (hs : 1 ≤ side ∧ side ≤ 1000) : (mkBrk r side 2).1.length ≤ 7 := by
  have h1 := (mkReg_reg r side 2 hs.1 hs.2 (by omega) (by omega)).len
  have h1' : (mkReg r side 2).1.length ≤ 6 := h1
  unfold mkBrk
  split
  · omega
  · split
    · exact Nat.le_trans (brkP_len _ _ _) (by omega)
    · show (mkReg r side 2).1.length ≤ 7
      omega
theorem SlG.onlyX {w w' : World} {g base : Nat} {A : Option Addr} {c : Nat} {l : RL} (h : RsOwn w base (.slice A l.length c) l) (hg : w.grownBy w' (some g)) (hlt : g < base) : SlG w' A l.length c l := (h.only hg hlt).slg
/-- What the second cover of a law's round says: no error where the first one has none, and none where it is true. -/
theorem cover_then {a b : List R4} {m : List (List R4)} (hb : validP b = true) : ((coverP a m).2 = 0 → (coverP b m).2 = 0) ∧ ((coverP b m).1 = true → (coverP b m).2 = 0) := by
  unfold coverP
  by_cases h : regsP m = 0
  · rw [if_pos h, if_pos h, if_pos hb]
    exact ⟨fun _ => rfl, fun _ => rfl⟩
  · rw [if_neg h, if_neg h]
    exact ⟨fun h2 => h2, fun h2 => by cases h2⟩
theorem chain_side {s : Nat} {l : List (List R4)} (h : ∀ a ∈ l, InS s a) : (chainP orB [] l).length ≤ s * s := by
  have hf : InS s l.flatten := fun q hq => by
    obtain ⟨a, ha, hq⟩ := List.mem_flatten.1 hq
    exact h a ha q hq
  rw [chain_union l hf.pos]
  exact canonP_side hf
theorem pickL_mem {F : List Fc} {s : Int} {a : List R4} (h : a ∈ pickL F s) : ∃ f ∈ F, f.rg = a := by
  obtain ⟨f, hf, rfl⟩ := List.mem_map.1 h
  exact ⟨f, (List.mem_filter.1 hf).1, rfl⟩
theorem pickL_len (F : List Fc) (s : Int) (k : Nat) : (pickL (F.take k) s).flatten.length ≤ (F.flatMap Fc.rg).length := by
  have h1 : ∀ G : List Fc, (pickL G s).flatten.length ≤ (G.flatMap Fc.rg).length := by
    intro G
    induction G with
    | nil => simp [pickL]
    | cons f t ih =>
      unfold pickL at ih ⊢
      rw [List.filter_cons, List.flatMap_cons, List.length_append]
      split
      · rw [List.map_cons, List.flatten_cons, List.length_append]; omega
      · omega
  refine Nat.le_trans (h1 _) ?_
  conv => rhs; rw [← List.take_append_drop k F]
  rw [List.flatMap_append, List.length_append]
  omega
/-- Faces of few rectangles: what Common makes on its way stays small. -/
structure FewF (F : List Fc) : Prop where
  n : F.length ≤ 200
  tot : (F.flatMap Fc.rg).length ≤ 1500
  chain : ∀ s k, (chainP orB [] (pickL (F.take k) s)).length ≤ 50000
theorem few_small {F : List Fc} (hn : F.length ≤ 200) (h : (F.flatMap Fc.rg).length ≤ 100) : FewF F := ⟨hn, by omega, fun s k => by
  have h1 := chain_union_len (pickL (F.take k) s)
  have h2 := pickL_len F s k
  have h3 : 2 * (pickL (F.take k) s).flatten.length * (pickL (F.take k) s).flatten.length ≤ 200 * 100 := Nat.mul_le_mul (by omega) (by omega)
  omega⟩
theorem few_side {F : List Fc} {s : Nat} (hs : s ≤ 10) (hn : F.length ≤ 15) (h : ∀ f ∈ F, Reg s (s * s) f.rg) : FewF F := ⟨by omega, by
  have h1 := rects_total h
  have h2 : s * s ≤ 10 * 10 := Nat.mul_le_mul hs hs
  have h3 : s * s * F.length ≤ 100 * 15 := Nat.mul_le_mul h2 hn
  omega, fun z k => by
  have h1 := chain_side (s := s) (l := pickL (F.take k) z) (fun a ha => by
    obtain ⟨f, hf, rfl⟩ := pickL_mem ha
    exact (h f (List.mem_of_mem_take hf)).ins)
  have h2 : s * s ≤ 10 * 10 := Nat.mul_le_mul hs hs
  omega⟩
theorem rects_few {b : Nat} {F : List Fc} (h : ∀ f ∈ F, f.rg.length ≤ b) : (F.flatMap Fc.rg).length ≤ b * F.length := by
  induction F with
  | nil => simp
  | cons f t ih =>
    rw [List.flatMap_cons, List.length_append, List.length_cons, Nat.mul_succ]
    have h1 := h f (by simp)
    have h2 := ih fun g hg => h g (by simp [hg])
    omega
theorem flat_few {b : Nat} {m : List (List R4)} (h : ∀ a ∈ m, a.length ≤ b) : m.flatten.length ≤ b * m.length := by
  induction m with
  | nil => simp
  | cons f t ih =>
    rw [List.flatten_cons, List.length_append, List.length_cons, Nat.mul_succ]
    have h1 := h f (by simp)
    have h2 := ih fun g hg => h g (by simp [hg])
    omega
theorem fcCells_set (l : FL) (k : Nat) (hk : k < l.length) (z : Int) : fcCells (l.set k (⟨z, l[k].1.rg⟩, l[k].2)) = (fcCells l).set (k * 2) (.int .i64 z) := by
  induction l generalizing k with
  | nil => simp at hk
  | cons a t ih =>
    rcases k with _ | k
    · simp [fcCells, fcC]
    · have h := ih k (by simpa using hk)
      simp only [List.set_cons_succ, List.getElem_cons_succ]
      have e : ∀ (x : Fc × LV) (u : FL), fcCells (x :: u) = fcC x ++ fcCells u := fun x u => by simp [fcCells]
      rw [e, e, h, List.set_append_right _ _ (by simp [fcC]; omega)]
      simp [fcC]
      rw [show (k + 1) * 2 - 2 = k * 2 by omega]
theorem fcCells_one (l : FL) : ∀ u ∈ fcCells l, u.oneCell' = true := by
  intro u hu
  obtain ⟨x, _, hx⟩ := List.mem_flatMap.1 hu
  simp only [fcC, List.mem_cons, List.not_mem_nil, or_false] at hx
  rcases hx with rfl | rfl <;> rfl
theorem slf_own {W : World} {base n c : Nat} {A : Option Addr} {l : FL} (h : W.ownsRow base 36 2 (.slice A n c) n (fcCells l)) (hl : l.length = n) (hf : ∀ x ∈ l, SlR W x.2.a x.1.rg.length x.2.c x.1.rg) : SlF W A n c l := by
  obtain ⟨A', c', e, h1, h2, h3⟩ := own_slice h
  injection e with e1 e2 e3
  subst e1 e3
  exact ⟨hl, h2, h3, h1, hf⟩
theorem fcs_set (l : FL) (k : Nat) (hk : k < l.length) (z : Int) : (fcs (l.set k (⟨z, l[k].1.rg⟩, l[k].2))).map Fc.rg = (fcs l).map Fc.rg := by
  unfold fcs
  rw [List.map_set, List.map_set]
  refine List.ext_getElem (by simp) fun i h1 h2 => ?_
  rw [List.getElem_set]
  split
  · rename_i h
    subst h
    simp
  · rfl
theorem few_same {F G : List Fc} {s : Nat} (hs : s ≤ 10) (hn : F.length ≤ 15) (h : ∀ f ∈ F, Reg s (s * s) f.rg) (he : G.map Fc.rg = F.map Fc.rg) : FewF G := by
  have hl : G.length = F.length := by have := congrArg List.length he; simpa using this
  refine few_side hs (by omega) fun f hf => ?_
  have : f.rg ∈ F.map Fc.rg := by rw [← he]; exact List.mem_map.2 ⟨f, hf, rfl⟩
  obtain ⟨f', hf', e⟩ := List.mem_map.1 this
  rw [← e]
  exact h f' hf'
theorem pEqual (w : World) (k : Nat) (a b : Int) : (Op.equalIn (k + 2) 56 (.agg #[.int .i64 a, .int .i64 b]) (.agg #[.int .i64 a, .int .i64 b])).run Tryz.prog w = .ok true w := by
  have h3 : ∀ (x : Int) (w : World), (Op.equalIn (k + 1) 3 (.int .i64 x) (.int .i64 x)).run Tryz.prog w = .ok true w := fun x w => by rw [run_equalIn_int w k 3 .i64 .i64 x x Tryz.underlying3]; simp
  have hs : ∀ w, (sizeOf 3).run Tryz.prog w = .ok 1 w := fun w => by simp [sizeOf, go_sem]; rfl
  unfold Op.equalIn
  simp [go_sem, run_underlying Tryz.underlying56, hs, part, h3, Std.Legacy.Range.forIn_eq_forIn_range', List.range']
theorem p_neq (w : World) (a b : Int) : (binOp .neq 56 (.agg #[.int .i64 a, .int .i64 b]) (.agg #[.int .i64 a, .int .i64 b])).run Tryz.prog w = .ok (.bool false) w := by
  rw [run_neq_struct, pEqual w 9998]
  rfl
theorem pGuard (w : World) (x y : Operand) (op : BinOp) (xs ys : Array Value) : (eqGuard op 56 x y (.agg xs) (.agg ys)).run Tryz.prog w = .ok () w := run_eqGuard_agg w op _ x y xs ys (by kernel_rfl)
theorem facesP_len {m : List (List R4)} (h : m.flatten.length ≤ 45) : (facesP m).1.length ≤ 8100 := by
  unfold facesP
  split
  · simp
  · split
    · split
      · simp
      · have h1 := (asc_all ((piecesP m).map fun p => (p.1 : Int))).2.2
        have h2 := pieces_len h
        rw [List.length_map] at h1
        simp only [List.length_map]
        show (asc _).length ≤ _
        omega
    · simp
theorem run_make_rg (n : Nat) (hn : n ≤ 1000) (W : World) : (Instr.makeSlice 25 (.int .i64 (n : Int)) (.int .i64 (n : Int))).run Tryz.prog W = .ok (.slice (some ⟨W.heap.size, 0, none⟩) n n) (W.alloc (.cells (madeCells #[.slice none 0 0] n) 34)) := by
  obtain ⟨i0, hi, hz0, hz1, hz2⟩ := info_parts Tryz.infoRegion
  have := run_make (P := Tryz.prog) W 25 34 i0 _ Tryz.underlying25 hi hz0 .i64 .i64 (n : Int) (n : Int) (by omega) (Int.le_refl _) (by rw [hz2]; omega) (by omega)
  rw [hz1] at this
  simpa [Value.cells] using this
theorem made1 (W : World) (o : Obj) (e : TypeId) (z : Value) (n : Nat) (hn : n ≤ maxLen) : ((W.alloc (.cells (madeCells #[z] n) e)).alloc o).ownsRow W.heap.size e 1 (.slice (some ⟨W.heap.size, 0, none⟩) n n) n (List.replicate n z) :=
  ownsRow_below (own_madeR W e z n hn) ((Below.refl _ _).alloc (Nat.le_refl _) o)
theorem made2 (W : World) (o : Obj) (e : TypeId) (z : Value) (n : Nat) (hn : n ≤ maxLen) : ((W.alloc o).alloc (.cells (madeCells #[z] n) e)).ownsRow W.heap.size e 1 (.slice (some ⟨W.heap.size + 1, 0, none⟩) n n) n (List.replicate n z) := by
  have := own_madeR (W.alloc o) e z n hn
  rw [World.size_alloc] at this
  exact own_rebase this (by omega)
theorem nilG {W : World} {base n c : Nat} {A : Option Addr} (h : W.ownsRow base 34 1 (.slice A n c) n (List.replicate n (.slice none 0 0))) : SlG W A n c (List.replicate n ([], ⟨none, 0⟩)) := by
  obtain ⟨A', c', e, h1, h2, h3⟩ := own_slice h
  injection e with e1 e2 e3
  subst e1 e3
  refine ⟨by simp, h2, h3, ?_, fun x hx => ?_⟩
  · have : rgCells (List.replicate n (([] : List R4), (⟨none, 0⟩ : LV))) = List.replicate n (.slice none 0 0) := by simp [rgCells, rgC]
    rw [this]
    exact h1
  · rw [(List.mem_replicate.1 hx).2]
    exact SlR.nil W
theorem nilG_flat (n : Nat) : (rgs (List.replicate n (([] : List R4), (⟨none, 0⟩ : LV)))).flatten.length ≤ 45 := by
  have : rgs (List.replicate n (([] : List R4), (⟨none, 0⟩ : LV))) = List.replicate n [] := by simp [rgs]
  rw [this, nil_rows]
  simp
theorem five_heap (w : World) (a b c : Obj) : (((w.alloc a).alloc b).alloc c).drew.heap[w.heap.size + 1 + 1]? = some c := by
  have := heap_alloc_new ((w.alloc a).alloc b) c
  rw [World.size_alloc, World.size_alloc] at this
  exact this
theorem five_own1 (w : World) (e : TypeId) (z : Value) (n : Nat) (hn : n ≤ maxLen) (b c : Obj) : (((w.alloc (.cells (madeCells #[z] n) e)).alloc b).alloc c).drew.ownsRow w.heap.size e 1 (.slice (some ⟨w.heap.size, 0, none⟩) n n) n (List.replicate n z) :=
  (ownsRow_below (made1 w b e z n hn) ((Below.refl _ _).alloc (Nat.le_refl _) c)).drew
theorem five_own2 (w : World) (e : TypeId) (z : Value) (n : Nat) (hn : n ≤ maxLen) (a c : Obj) : (((w.alloc a).alloc (.cells (madeCells #[z] n) e)).alloc c).drew.ownsRow w.heap.size e 1 (.slice (some ⟨w.heap.size + 1, 0, none⟩) n n) n (List.replicate n z) :=
  (ownsRow_below (made2 w a e z n hn) ((Below.refl _ _).alloc (Nat.le_refl _) c)).drew
theorem five_leafA (w : World) (a b c : Value) (m n : Nat) (hm : m ≤ maxLen) (hn : n ≤ maxLen) :
    ∃ Q X Y : Nat, Value.slice (some ⟨w.heap.size + 1 + 1, 0, none⟩) 5 5 = .slice (some ⟨Q, 0, none⟩) 5 5 ∧ Value.int .i64 5 = .int .i64 5 ∧ Value.int .i64 0 = .int .i64 0 ∧ w.heap.size ≤ Q ∧ (((w.alloc (.cells (madeCells #[.slice none 0 0] m) 34)).alloc (.cells (madeCells #[.slice none 0 0] n) 34)).alloc (.cells #[a, b, c, .slice (some ⟨w.heap.size, 0, none⟩) m m, .slice (some ⟨w.heap.size + 1, 0, none⟩) n n] 25)).drew.heap[Q]? = some (.cells #[a, b, c, .slice (some ⟨X, 0, none⟩) m m, .slice (some ⟨Y, 0, none⟩) n n] 25 (0, 0)) ∧ (((w.alloc (.cells (madeCells #[.slice none 0 0] m) 34)).alloc (.cells (madeCells #[.slice none 0 0] n) 34)).alloc (.cells #[a, b, c, .slice (some ⟨w.heap.size, 0, none⟩) m m, .slice (some ⟨w.heap.size + 1, 0, none⟩) n n] 25)).drew.ownsRow w.heap.size 34 1 (.slice (some ⟨X, 0, none⟩) m m) m (List.replicate m (.slice none 0 0)) ∧ (((w.alloc (.cells (madeCells #[.slice none 0 0] m) 34)).alloc (.cells (madeCells #[.slice none 0 0] n) 34)).alloc (.cells #[a, b, c, .slice (some ⟨w.heap.size, 0, none⟩) m m, .slice (some ⟨w.heap.size + 1, 0, none⟩) n n] 25)).drew.ownsRow w.heap.size 34 1 (.slice (some ⟨Y, 0, none⟩) n n) n (List.replicate n (.slice none 0 0)) ∧ Below w.heap.size w (((w.alloc (.cells (madeCells #[.slice none 0 0] m) 34)).alloc (.cells (madeCells #[.slice none 0 0] n) 34)).alloc (.cells #[a, b, c, .slice (some ⟨w.heap.size, 0, none⟩) m m, .slice (some ⟨w.heap.size + 1, 0, none⟩) n n] 25)).drew :=
  ⟨w.heap.size + 1 + 1, w.heap.size, w.heap.size + 1, rfl, rfl, rfl, by omega, five_heap _ _ _ _, five_own1 _ _ _ _ hm _ _, five_own2 _ _ _ _ hn _ _, ((((Below.refl _ _).alloc (Nat.le_refl _) _).alloc (by simp) _).alloc (by simp; omega) _).drew⟩
theorem five_leafB (w : World) (a b c : Value) (m n : Nat) (hm : m ≤ maxLen) (hn : n ≤ maxLen) :
    ∃ Q X Y : Nat, Value.slice (some ⟨w.heap.size + 1 + 1, 0, none⟩) 5 5 = .slice (some ⟨Q, 0, none⟩) 5 5 ∧ Value.int .i64 5 = .int .i64 5 ∧ Value.int .i64 0 = .int .i64 0 ∧ w.heap.size ≤ Q ∧ (((w.alloc (.cells (madeCells #[.slice none 0 0] n) 34)).alloc (.cells (madeCells #[.slice none 0 0] m) 34)).alloc (.cells #[a, b, c, .slice (some ⟨w.heap.size + 1, 0, none⟩) m m, .slice (some ⟨w.heap.size, 0, none⟩) n n] 25)).drew.heap[Q]? = some (.cells #[a, b, c, .slice (some ⟨X, 0, none⟩) m m, .slice (some ⟨Y, 0, none⟩) n n] 25 (0, 0)) ∧ (((w.alloc (.cells (madeCells #[.slice none 0 0] n) 34)).alloc (.cells (madeCells #[.slice none 0 0] m) 34)).alloc (.cells #[a, b, c, .slice (some ⟨w.heap.size + 1, 0, none⟩) m m, .slice (some ⟨w.heap.size, 0, none⟩) n n] 25)).drew.ownsRow w.heap.size 34 1 (.slice (some ⟨X, 0, none⟩) m m) m (List.replicate m (.slice none 0 0)) ∧ (((w.alloc (.cells (madeCells #[.slice none 0 0] n) 34)).alloc (.cells (madeCells #[.slice none 0 0] m) 34)).alloc (.cells #[a, b, c, .slice (some ⟨w.heap.size + 1, 0, none⟩) m m, .slice (some ⟨w.heap.size, 0, none⟩) n n] 25)).drew.ownsRow w.heap.size 34 1 (.slice (some ⟨Y, 0, none⟩) n n) n (List.replicate n (.slice none 0 0)) ∧ Below w.heap.size w (((w.alloc (.cells (madeCells #[.slice none 0 0] n) 34)).alloc (.cells (madeCells #[.slice none 0 0] m) 34)).alloc (.cells #[a, b, c, .slice (some ⟨w.heap.size + 1, 0, none⟩) m m, .slice (some ⟨w.heap.size, 0, none⟩) n n] 25)).drew :=
  ⟨w.heap.size + 1 + 1, w.heap.size + 1, w.heap.size, rfl, rfl, rfl, by omega, five_heap _ _ _ _, five_own2 _ _ _ _ hm _ _, five_own1 _ _ _ _ hn _ _, ((((Below.refl _ _).alloc (Nat.le_refl _) _).alloc (by simp) _).alloc (by simp; omega) _).drew⟩
end Go.Proofs.YtabcadpfhachoaaGreat
