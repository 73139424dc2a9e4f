/- Plain: the faces with a region's bit are the region. -/
import Derived.Test.YtabcadpfhachoaaGreatOI
namespace Go.Proofs.YtabcadpfhachoaaGreat
open Go.RowKit
set_option linter.unusedVariables false
set_option linter.unusedSimpArgs false

theorem sumI_bd' (g : Int → Int) (k : Int) : ∀ (n : Nat) (lo : Int), (∀ x, 0 ≤ g x ∧ g x ≤ k) → 0 ≤ sumI g lo n ∧ sumI g lo n ≤ n * k
  | 0, lo, h => by simp [sumI]
  | n + 1, lo, h => by
    have h1 := h lo
    have h2 := sumI_bd' g k n (lo + 1) h
    have e : ((n + 1 : Nat) : Int) * k = k + (n : Int) * k := by
      rw [Int.natCast_succ, Int.add_mul, Int.one_mul, Int.add_comm]
    rw [e]
    unfold sumI
    omega
theorem ind_bd (b : Bool) : 0 ≤ ind b ∧ ind b ≤ 1 := by cases b <;> simp [ind]
theorem area_bd {s m : Nat} {l : List R4} (h : Reg s m l) (hs : s ≤ 10) (hm : m ≤ 120) : 0 ≤ areaP l ∧ areaP l ≤ s * s := by
  obtain ⟨h1, h2⟩ := h.area hs hm
  rw [h1, ← h2]
  have h3 : ∀ x, 0 ≤ sumI (fun y => ind (inL l x y)) 0 s ∧ sumI (fun y => ind (inL l x y)) 0 s ≤ (s : Int) := fun x => by
    have := sumI_bd' (fun y => ind (inL l x y)) 1 s 0 (fun y => ind_bd _)
    rw [Int.mul_one] at this
    exact this
  exact sumI_bd' _ (s : Int) s 0 h3
theorem sumI_zero (n : Nat) (lo : Int) : sumI (fun _ => 0) lo n = 0 := by rw [sumI_const _ 0 n lo fun _ _ _ => rfl]; simp
theorem areas_sum {s m : Nat} (hs : s ≤ 10) (hm : m ≤ 120) : ∀ (G : List Fc), (∀ f ∈ G, Reg s m f.rg) → (G.map fun f => areaP f.rg).sum = sumI (fun x => sumI (fun y => (G.map fun f => ind (inL f.rg x y)).sum) 0 s) 0 s
  | [], _ => by
    show (0 : Int) = sumI (fun x => sumI (fun y => 0) 0 s) 0 s
    rw [show (fun _ : Int => sumI (fun _ => (0 : Int)) 0 s) = fun _ => 0 from by funext x; exact sumI_zero _ _]
    exact (sumI_zero _ _).symm
  | f :: t, h => by
    obtain ⟨h1, h2⟩ := (h f (by simp)).area hs hm
    have ih := areas_sum hs hm t (fun g hg => h g (List.mem_cons_of_mem _ hg))
    show areaP f.rg + (t.map fun f => areaP f.rg).sum = sumI (fun x => sumI (fun y => ind (inL f.rg x y) + (t.map fun f => ind (inL f.rg x y)).sum) 0 s) 0 s
    rw [ih, h1, ← h2, ← sumI_plus]
    refine sumI_congr _ _ _ _ fun x _ _ => ?_
    rw [← sumI_plus]
theorem ind_sum (t : Int) : ∀ (G : List Fc), (G.map Fc.set).Pairwise (· < ·) → (G.map fun f => ind (decide (t = f.set))).sum = ind (decide (t ∈ G.map Fc.set))
  | [], _ => by simp [ind]
  | f :: u, h => by
    rw [List.map_cons, List.pairwise_cons] at h
    have ih := ind_sum t u h.2
    rw [List.map_cons, List.sum_cons, ih, List.map_cons]
    by_cases e : t = f.set
    · have hn : t ∉ u.map Fc.set := fun hm => by have := h.1 t hm; omega
      rw [decide_eq_true e, decide_eq_true (List.mem_cons.2 (.inl e)), decide_eq_false hn]
      rfl
    · simp [e, ind]
def bitF (i : Nat) (f : Fc) : Bool := f.set.toNat.testBit i
theorem up_filter {F : List Fc} (h : (F.map Fc.set).Pairwise (· < ·)) (p : Fc → Bool) : ((F.filter p).map Fc.set).Pairwise (· < ·) := by
  rw [List.pairwise_map] at h ⊢
  exact h.filter p
theorem bit_mem {s : Nat} {m : List (List R4)} {F : List Fc} (hF : FacesOk s m F) (x y : Int) (i : Nat) : ((setAt m x y : Int) ∈ (F.filter (bitF i)).map Fc.set) ↔ (setAt m x y).testBit i = true := by
  constructor
  · intro h
    obtain ⟨f, hf, e⟩ := List.mem_map.1 h
    have := (List.mem_filter.1 hf).2
    unfold bitF at this
    rw [e, Int.toNat_natCast] at this
    exact this
  · intro h
    have hz : setAt m x y ≠ 0 := fun e => by rw [e] at h; simp at h
    obtain ⟨f, hf, e⟩ := hF.all x y hz
    refine List.mem_map.2 ⟨f, List.mem_filter.2 ⟨hf, ?_⟩, e⟩
    unfold bitF
    rw [e, Int.toNat_natCast]
    exact h
theorem bit_in {m : List (List R4)} (x y : Int) (i : Nat) (hi : i < m.length) : (setAt m x y).testBit i = inL m[i] x y := by
  rw [setAt_bit, List.getElem?_eq_getElem hi]
  rfl
/-- The areas of the faces with a region's bit add up to its area. -/
theorem bits_area {s : Nat} {m : List (List R4)} {F : List Fc} (hs : s ≤ 10) (hF : FacesOk s m F) (i : Nat) (hi : i < m.length) {k : Nat} (hk : k ≤ 120) (hr : Reg s k m[i]) : ((F.filter (bitF i)).map fun f => areaP f.rg).sum = areaP m[i] := by
  have hss : s * s ≤ 120 := by have : s * s ≤ 10 * 10 := Nat.mul_le_mul hs hs; omega
  rw [areas_sum hs hss _ fun f hf => hF.reg f (List.mem_filter.1 hf).1]
  obtain ⟨h1, h2⟩ := hr.area hs hk
  rw [h1, ← h2]
  refine sumI_congr _ _ _ _ fun x _ _ => sumI_congr _ _ _ _ fun y _ _ => ?_
  have e : (F.filter (bitF i)).map (fun f => ind (inL f.rg x y)) = (F.filter (bitF i)).map fun f => ind (decide ((setAt m x y : Int) = f.set)) := List.map_congr_left fun f hf => by rw [hF.at' f (List.mem_filter.1 hf).1]
  rw [e, ind_sum _ _ (up_filter hF.up _), ← bit_in x y i hi]
  congr 1
  rw [Bool.eq_iff_iff, decide_eq_true_iff]
  exact bit_mem hF x y i

theorem and_pow (z i : Nat) (hz : z < 2 ^ 62) (hi : i ≤ 60) : (bits BinOp.and IntKind.i64 (z : Int) ((2 ^ i : Nat) : Int) = ((2 ^ i : Nat) : Int)) ↔ z.testBit i = true := by
  have h1 : 2 ^ i < 2 ^ 62 := Nat.pow_lt_pow_right (by omega) (by omega)
  rw [and_i64n z (2 ^ i) hz h1, Int.ofNat_inj]
  constructor
  · intro h
    have := congrArg (fun n => n.testBit i) h
    simpa [Nat.testBit_and, Nat.testBit_two_pow_self] using this
  · intro h
    refine Nat.eq_of_testBit_eq fun j => ?_
    rw [Nat.testBit_and, Nat.testBit_two_pow]
    by_cases e : i = j
    · subst e; simp [h]
    · simp [e]
theorem inL_pick {s : Nat} {m : List (List R4)} {F : List Fc} (hF : FacesOk s m F) (t : Int) (x y : Int) : inL (pickP F t) x y = true ↔ ∃ f ∈ F, pickF t f = true ∧ f.set = (setAt m x y : Int) := by
  unfold inL
  rw [List.any_eq_true]
  constructor
  · rintro ⟨q, hq, h⟩
    obtain ⟨f, hf, hq⟩ := List.mem_flatMap.1 hq
    obtain ⟨hf1, hf2⟩ := List.mem_filter.1 hf
    have := hF.at' f hf1 x y
    unfold inL at this
    have h2 : (f.rg.any fun q => q.has x y) = true := List.any_eq_true.2 ⟨q, hq, h⟩
    rw [h2] at this
    exact ⟨f, hf1, hf2, (of_decide_eq_true this.symm).symm⟩
  · rintro ⟨f, hf, hp, e⟩
    have := hF.at' f hf x y
    rw [e, decide_eq_true rfl] at this
    unfold inL at this
    obtain ⟨q, hq, h⟩ := List.any_eq_true.1 this
    exact ⟨q, List.mem_flatMap.2 ⟨f, List.mem_filter.2 ⟨hf, hp⟩, hq⟩, h⟩
theorem pow12 {n : Nat} (h : n ≤ 12) : (2 : Int) ^ n ≤ 4096 := by
  have h1 : 2 ^ n ≤ 2 ^ 12 := Nat.pow_le_pow_right (by omega) h
  have := Int.ofNat_le.2 h1
  simpa using this
theorem faces_check {s : Nat} {m : List (List R4)} {F : List Fc} (hs : s ≤ 10) (hm : m.length ≤ 7) (hF : FacesOk s m F) : checkFP F = 0 := by
  have hl := faces_len hF
  have hp : 2 ^ m.length ≤ 2 ^ 7 := Nat.pow_le_pow_right (by omega) hm
  have hss : s * s ≤ 120 := by have : s * s ≤ 10 * 10 := Nat.mul_le_mul hs hs; omega
  unfold checkFP
  rw [if_neg (by omega), if_pos (List.all_eq_true.2 fun f hf => (hF.reg f hf).valid (by omega) hss), if_pos]
  refine List.all_eq_true.2 fun k hk => ?_
  have hk := List.mem_range.1 hk
  have hp4 := pow12 (n := m.length) (by omega)
  have h1 : (F.getD k ⟨0, []⟩) = F[k] := by simp [List.getD, List.getElem?_eq_getElem hk]
  have h2 := hF.pos F[k] (List.getElem_mem hk)
  unfold okAt
  rw [h1, Bool.and_eq_true, decide_eq_true_iff, decide_eq_true_iff]
  refine ⟨?_, by omega⟩
  cases k with
  | zero => exact h2.1
  | succ j =>
    have h3 : (F.getD j ⟨0, []⟩) = F[j] := by simp [List.getD, List.getElem?_eq_getElem (show j < F.length by omega)]
    show (F.getD j ⟨0, []⟩).set < _
    rw [h3]
    have := hF.up
    rw [List.pairwise_iff_getElem] at this
    have := this j (j + 1) (by simpa using (show j < F.length by omega)) (by simpa using hk) (by omega)
    simpa using this
theorem pick_ins {s : Nat} {m : List (List R4)} {F : List Fc} (hF : FacesOk s m F) (t : Int) : InS s (pickP F t) := by
  intro q hq
  obtain ⟨f, hf, hq⟩ := List.mem_flatMap.1 hq
  exact (hF.reg f (List.mem_filter.1 hf).1).ins q hq
theorem canon_reg {s : Nat} {l : List R4} (h : InS (s : Int) l) : Reg s (s * s) (canonP l) := ⟨canonP_in h, canonP_idem h, canonP_side h⟩
theorem canon_is {s k : Nat} {l a : List R4} (h : InS (s : Int) l) (ha : Reg s k a) (he : ∀ x y, inL l x y = inL a x y) : canonP l = a := by
  refine reg_same (canon_reg h) ha fun x y => ?_
  rw [← he, canonP_or l h.pos, choose_mem orB rfl h.pos (fun q hq => by cases hq)]
  simp [orB, inL]
theorem common_lim {s : Nat} {F : List Fc} {m : List (List R4)} (hs : s ≤ 10) (hm : m.length ≤ 7) (hF : FacesOk s m F) (t : Int) : commonFP F t = (canonP (pickP F t), 0) := by
  have h1 := canonP_side (pick_ins hF t)
  have h2 : s * s ≤ 10 * 10 := Nat.mul_le_mul hs hs
  unfold commonFP limP
  rw [if_pos (faces_check hs hm hF), if_neg (by omega)]
/-- The faces with a region's bit are the region. -/
theorem common_bit {s k : Nat} {m : List (List R4)} {F : List Fc} (hs : s ≤ 10) (hm : m.length ≤ 7) (hF : FacesOk s m F) (i : Nat) (hi : i < m.length) (hr : Reg s k m[i]) : commonFP F ((2 ^ i : Nat) : Int) = (m[i], 0) := by
  rw [common_lim hs hm hF]
  congr 1
  refine canon_is (pick_ins hF _) hr fun x y => bool_eq ?_
  rw [inL_pick hF, ← bit_in x y i hi]
  have hp4 := pow12 (n := m.length) (by omega)
  constructor
  · rintro ⟨f, hf, hp, e⟩
    have h2 := hF.pos f hf
    obtain ⟨z, hz⟩ := Int.eq_ofNat_of_zero_le (show 0 ≤ f.set by omega)
    unfold pickF at hp
    rw [hz] at hp e h2
    simp only [Bool.and_eq_true, decide_eq_true_eq] at hp
    have := (and_pow z i (by omega) (by omega)).1 hp.2
    rwa [← Int.ofNat_inj.1 e]
  · intro h
    have hz : setAt m x y ≠ 0 := fun e => by rw [e] at h; simp at h
    obtain ⟨f, hf, e⟩ := hF.all x y hz
    have h2 := hF.pos f hf
    refine ⟨f, hf, ?_, e⟩
    unfold pickF
    rw [e] at h2 ⊢
    simp only [Bool.and_eq_true, decide_eq_true_eq]
    exact ⟨Int.natCast_nonneg _, (and_pow _ i (by omega) (by omega)).2 h⟩
theorem inL_flatten (m : List (List R4)) (x y : Int) : inL m.flatten x y = true ↔ ∃ a ∈ m, inL a x y = true := by
  unfold inL
  rw [List.any_flatten, List.any_eq_true]
theorem setAt_pos (m : List (List R4)) (x y : Int) : setAt m x y ≠ 0 ↔ ∃ a ∈ m, inL a x y = true := by
  unfold setAt
  rw [Ne, maskL_zero]
  constructor
  · intro h
    apply Classical.byContradiction
    intro hn
    apply h
    intro b hb
    obtain ⟨a, ha, rfl⟩ := List.mem_map.1 hb
    cases e : inL a x y
    · rfl
    · exact absurd ⟨a, ha, e⟩ hn
  · rintro ⟨a, ha, e⟩ h
    have := h (inL a x y) (List.mem_map.2 ⟨a, ha, rfl⟩)
    rw [e] at this
    cases this
theorem flat_ins {s : Nat} {k : Nat} {m : List (List R4)} (hr : ∀ a ∈ m, Reg s k a) : InS (s : Int) m.flatten := by
  intro q hq
  obtain ⟨a, ha, hq⟩ := List.mem_flatten.1 hq
  exact (hr a ha).ins q hq
/-- All faces are the union of all regions. -/
theorem union_all {s k : Nat} {m : List (List R4)} {F : List Fc} (hs : s ≤ 10) (hF : FacesOk s m F) (hr : ∀ a ∈ m, Reg s k a) (hl : m.flatten.length ≤ 120) (hml : m.length ≤ 60) : ofL m.flatten = (canonP (pickP F 0), 0) := by
  have hin := flat_ins hr
  have h1 := canonP_side hin
  have h2 : s * s ≤ 10 * 10 := Nat.mul_le_mul hs hs
  rw [← ofP_eq]
  unfold ofP
  rw [if_neg (by omega), if_pos (hin.ok (by omega)), if_neg (by omega)]
  congr 1
  refine canon_is hin (canon_reg (pick_ins hF 0)) fun x y => ?_
  have hp := pick_ins hF 0
  rw [canonP_or (pickP F 0) hp.pos, choose_mem orB rfl hp.pos (fun q hq => by cases hq)]
  refine bool_eq ?_
  simp only [orB, show inL [] x y = false from rfl, Bool.or_false]
  rw [inL_pick hF, inL_flatten, ← setAt_pos]
  constructor
  · intro h
    obtain ⟨f, hf, e⟩ := hF.all x y h
    refine ⟨f, hf, ?_, e⟩
    have h2 := hF.pos f hf
    obtain ⟨z, hz⟩ := Int.eq_ofNat_of_zero_le (show 0 ≤ f.set by omega)
    unfold pickF
    simp only [Bool.and_eq_true, decide_eq_true_eq]
    refine ⟨Int.le_refl _, ?_⟩
    rw [e, show (0 : Int) = ((0 : Nat) : Int) from rfl]
    have h3 : setAt m x y < 2 ^ 62 := Nat.lt_of_lt_of_le (setAt_lt m x y) (Nat.pow_le_pow_right (by omega) (by omega))
    rw [and_i64n _ _ h3 (by omega), Nat.and_zero]
  · rintro ⟨f, hf, _, e⟩ h0
    have h2 := hF.pos f hf
    rw [e, h0] at h2
    exact absurd h2.1 (by omega)

def sumA (i : Nat) (G : List Fc) : Int := ((G.filter (bitF i)).map fun f => areaP f.rg).sum
theorem sumA_snoc (i : Nat) (G : List Fc) (f : Fc) : sumA i (G ++ [f]) = sumA i G + if bitF i f then areaP f.rg else 0 := by
  unfold sumA
  rw [List.filter_append]
  cases h : bitF i f <;> simp [h]
theorem sumA_bd (i : Nat) (k : Int) : ∀ (G : List Fc), (∀ f ∈ G, 0 ≤ areaP f.rg ∧ areaP f.rg ≤ k) → 0 ≤ sumA i G ∧ sumA i G ≤ k * G.length
  | [], _ => by simp [sumA]
  | f :: t, h => by
    have h1 := h f (by simp)
    have h2 := sumA_bd i k t (fun g hg => h g (List.mem_cons_of_mem _ hg))
    have e : sumA i (f :: t) = (if bitF i f then areaP f.rg else 0) + sumA i t := by
      unfold sumA
      cases h : bitF i f <;> simp [h]
    have e2 : k * ((f :: t).length : Int) = k * (t.length : Int) + k := by
      rw [List.length_cons, Int.natCast_succ, Int.mul_add, Int.mul_one]
    rw [e, e2]
    split <;> omega
theorem cuts_ins {s : Nat} {l : List R4} (h : InS (s : Int) l) : (cutsP l).length ≤ s + 1 := by
  have h1 := lt_len (cutsP l) 0 s (asc_all _).1 (fun e he => by
    have he := ((asc_all _).2.1 e).1 he
    unfold yEdges at he
    obtain ⟨q, hq, he⟩ := List.mem_flatMap.1 he
    have := h q hq
    simp only [List.mem_cons, List.not_mem_nil, or_false] at he
    rcases he with rfl | rfl <;> omega) (by omega)
  omega
theorem rects_total {s k : Nat} : ∀ {F : List Fc}, (∀ f ∈ F, Reg s k f.rg) → (F.flatMap Fc.rg).length ≤ k * F.length
  | [], _ => by simp
  | f :: t, h => by
    have h1 := (h f (by simp)).len
    have h2 := rects_total (F := t) (fun g hg => h g (List.mem_cons_of_mem _ hg))
    rw [List.flatMap_cons, List.length_append, List.length_cons, Nat.mul_succ]
    omega
end Go.Proofs.YtabcadpfhachoaaGreat
