/- Contract: Rings (the reference's). -/
import Derived.Deep.OwnRows
import Derived.Test.YtpcfhcdbibklcaaGreatAF
import Derived.Test.YtpcfhcdbibklcaaGreatAH
import Derived.Test.YtpcfhcdbibklcaaGreatAJ
namespace Go.Proofs.YtpcfhcdbibklcaaGreat
open Go.RowKit Go.Shelf
set_option linter.unusedVariables false
set_option linter.unusedSimpArgs false

variable {P : Sq} {es : List R4}
def e0R : R4 := ⟨0, 0, 0, 0⟩
def ge (es : List R4) (i : Nat) : R4 := es.getD i e0R
theorem ge_at {es : List R4} {i : Nat} (h : i < es.length) : ge es i = es[i] := by unfold ge; rw [List.getD_eq_getElem?_getD, List.getElem?_eq_getElem h]; rfl
theorem ge_mem {es : List R4} {i : Nat} (h : i < es.length) : ge es i ∈ es := by rw [ge_at h]; exact List.getElem_mem h
theorem ge_inj {es : List R4} (hn : es.Nodup) {i j : Nat} (hi : i < es.length) (hj : j < es.length) (e : ge es i = ge es j) : i = j := by
  rw [ge_at hi, ge_at hj] at e
  rw [List.Nodup, List.pairwise_iff_getElem] at hn
  rcases Nat.lt_trichotomy i j with h | h | h
  · exact absurd e (hn i j hi hj h)
  · exact h
  · exact absurd e.symm (hn j i hj hi h)
theorem ge_of {es : List R4} {e : R4} (h : e ∈ es) : ∃ i, i < es.length ∧ ge es i = e := by
  obtain ⟨i, hi, e1⟩ := List.getElem_of_mem h
  exact ⟨i, hi, by rw [ge_at hi]; exact e1⟩
def leftI (e f : R4) : Bool := decide (0 < (e.r - e.l) * (f.t - f.b) - (e.t - e.b) * (f.r - f.l))
def levE (e : R4) : Bool := decide (e.b = e.t)
theorem sgn_mul {a b : Int} : (0 < a → (0 < a * b ↔ 0 < b)) ∧ (a < 0 → (0 < a * b ↔ b < 0)) := by
  refine ⟨fun h => ⟨fun hb => ?_, fun hb => Int.mul_pos h hb⟩, fun h => ⟨fun hb => ?_, fun hb => Int.mul_pos_of_neg_of_neg h hb⟩⟩
  · rcases Int.lt_or_le 0 b with h1 | h1
    · exact h1
    · have := Int.mul_nonpos_of_nonneg_of_nonpos (Int.le_of_lt h) h1
      omega
  · rcases Int.lt_or_le b 0 with h1 | h1
    · exact h1
    · have := Int.mul_nonpos_of_nonpos_of_nonneg (Int.le_of_lt h) h1
      omega
theorem left_dir {e f : R4} (he : StE e) (hf : StE f) : leftI e f = true ↔ dirOf f = (dirOf e).lft := by
  obtain ⟨l, b, r, t⟩ := e
  obtain ⟨l', b', r', t'⟩ := f
  unfold StE at he hf
  unfold leftI
  rw [decide_eq_true_eq]
  dsimp only at *
  have s1 := @sgn_mul (r - l) (t' - b')
  have s2 := @sgn_mul (-(t - b)) (r' - l')
  rw [Int.neg_mul] at s2
  rcases he with ⟨h1, h2⟩ | ⟨h1, h2⟩
  · have z : (r - l) * (t' - b') = 0 := by rw [show r - l = 0 by omega, Int.zero_mul]
    rw [z, Int.zero_sub]
    rcases Int.lt_or_gt_of_ne h2 with g | g
    · rw [s2.2 (by omega)]
      have e1 : dirOf ⟨l, b, r, t⟩ = .up := by unfold dirOf; simp only []; rw [if_neg (by omega), if_neg (by omega), if_pos g]
      rw [e1]
      unfold dirOf
      simp only []
      split
      · simp [Dr.lft]; omega
      · split
        · simp [Dr.lft]; omega
        · split <;> simp [Dr.lft] <;> omega
    · rw [s2.1 (by omega)]
      have e1 : dirOf ⟨l, b, r, t⟩ = .dn := by unfold dirOf; simp only []; rw [if_neg (by omega), if_neg (by omega), if_neg (by omega)]
      rw [e1]
      unfold dirOf
      simp only []
      split
      · simp [Dr.lft]; omega
      · split
        · simp [Dr.lft]; omega
        · split <;> simp [Dr.lft] <;> omega
  · have z : (t - b) * (r' - l') = 0 := by rw [show t - b = 0 by omega, Int.zero_mul]
    rw [z, Int.sub_zero]
    rcases Int.lt_or_gt_of_ne h2 with g | g
    · rw [s1.1 (by omega)]
      have e1 : dirOf ⟨l, b, r, t⟩ = .ri := by unfold dirOf; simp only []; rw [if_pos g]
      rw [e1]
      unfold dirOf
      simp only []
      split
      · simp [Dr.lft]; omega
      · split
        · simp [Dr.lft]; omega
        · split <;> simp [Dr.lft] <;> omega
    · rw [s1.2 (by omega)]
      have e1 : dirOf ⟨l, b, r, t⟩ = .le := by unfold dirOf; simp only []; rw [if_neg (by omega), if_pos (by omega)]
      rw [e1]
      unfold dirOf
      simp only []
      split
      · simp [Dr.lft]; omega
      · split
        · simp [Dr.lft]; omega
        · split <;> simp [Dr.lft] <;> omega
/-- Whether an edge may be the next one; the one that is taken. -/
def candB (es : List R4) (us : List Bool) (s i k : Nat) : Bool := decide (frOf (ge es k) = toOf (ge es i)) && (decide (k = s) || !us.getD k true)
def nextU (es : List R4) (us : List Bool) (s i : Nat) : Nat → Option Nat
  | 0 => none
  | k + 1 => if candB es us s i k && ((nextU es us s i k).isNone || leftI (ge es i) (ge es k)) then some k else nextU es us s i k
theorem nextU_cand (es : List R4) (us : List Bool) (s i : Nat) : ∀ (k m : Nat), nextU es us s i k = some m → m < k ∧ candB es us s i m = true
  | 0, m, h => by cases h
  | k + 1, m, h => by
    rw [nextU] at h
    split at h
    · rename_i hc
      injection h with h
      subst h
      rw [Bool.and_eq_true] at hc
      exact ⟨by omega, hc.1⟩
    · have := nextU_cand es us s i k m h
      exact ⟨by omega, this.2⟩
theorem next_sx (h : ESet P es) {us : List Bool} {s i j : Nat} (hi : i < es.length) (hj : j < es.length) (hs : Sx P (ge es i) (ge es j)) (hc : candB es us s i j = true) : ∀ k, k ≤ es.length → j < k → nextU es us s i k = some j
  | 0, _, hk => by omega
  | k + 1, hk, hjk => by
    have two : ∀ m, m < es.length → m ≠ j → frOf (ge es m) = toOf (ge es i) → dirOf (ge es j) = (dirOf (ge es i)).lft ∧ dirOf (ge es m) ≠ dirOf (ge es j) := fun m hm hmj hfr => by
      have hd : dirOf (ge es m) ≠ dirOf (ge es j) := fun e => hmj (ge_inj h.nod hm hj (h.eq_first (ge_mem hm) (ge_mem hj) (hfr.trans hs.1) e))
      have om := h.out (ge_mem hm)
      have oj := h.out (ge_mem hj)
      rw [hfr] at om
      rw [← hs.1] at oj
      exact ⟨by rw [hs.2]; exact nxB_two _ _ _ _ _ _ _ (h.arr (ge_mem hi)) om oj hd, hd⟩
    have lf : ∀ m, m < es.length → (leftI (ge es i) (ge es m) = true ↔ dirOf (ge es m) = (dirOf (ge es i)).lft) := fun m hm => left_dir (h.st _ (ge_mem hi)) (h.st _ (ge_mem hm))
    rw [nextU]
    rcases Nat.lt_or_ge j k with h1 | h1
    · rw [next_sx h hi hj hs hc k (by omega) h1]
      rw [if_neg]
      rw [Bool.and_eq_true]
      rintro ⟨h2, h3⟩
      unfold candB at h2
      rw [Bool.and_eq_true, decide_eq_true_eq] at h2
      obtain ⟨t1, t2⟩ := two k (by omega) (by omega) h2.1
      have h4 : leftI (ge es i) (ge es k) = true := by simpa using h3
      exact t2 (((lf k (by omega)).1 h4).trans t1.symm)
    · have : k = j := by omega
      subst this
      rw [if_pos]
      rw [hc, Bool.true_and]
      cases hn : nextU es us s i k with
      | none => rfl
      | some m =>
        obtain ⟨m1, m2⟩ := nextU_cand es us s i k m hn
        unfold candB at m2
        rw [Bool.and_eq_true, decide_eq_true_eq] at m2
        obtain ⟨t1, t2⟩ := two m (by omega) (by omega) m2.1
        rw [Bool.or_eq_true]
        exact .inr ((lf k hj).2 t1)
theorem lk_fresh (h : ESet P es) {a z : R4} {t : List R4} (hl : Lk (Sx P) a t z) (hn : (a :: t).Nodup) (hs : ∀ e ∈ a :: t, e ∈ es) (hz : z ∈ t) : False := by
  obtain ⟨t1, t2, rfl⟩ := List.append_of_mem hz
  obtain ⟨l1, l2⟩ := Lk.app.1 hl
  obtain ⟨e, he, h1⟩ := l1.pred z (by simp)
  obtain ⟨f, hf, h2⟩ := l2.pred z (by simp)
  have he2 : e ∈ a :: (t1 ++ z :: t2) := by
    rcases List.mem_cons.1 he with rfl | he
    · exact List.mem_cons_self
    · exact List.mem_cons_of_mem _ (List.mem_append.2 (.inl he))
  have hf2 : f ∈ a :: (t1 ++ z :: t2) := List.mem_cons_of_mem _ (List.mem_append.2 (.inr hf))
  have hef := h.inj (hs e he2) (hs f hf2) h1 h2
  subst hef
  have hn2 : ((a :: t1) ++ (z :: t2)).Nodup := hn
  exact (List.nodup_append.1 hn2).2.2 e he e hf rfl
theorem getD_set (us : List Bool) (i m : Nat) (hi : i < us.length) : (us.set i true).getD m true = (decide (m = i) || us.getD m true) := by
  rw [List.getD_eq_getElem?_getD, List.getD_eq_getElem?_getD, List.getElem?_set]
  by_cases h : i = m
  · subst h
    rw [if_pos rfl, if_pos hi]
    simp
  · rw [if_neg h, decide_eq_false (show ¬ m = i by omega), Bool.false_or]
/-- What has been followed so far. -/
structure ChSt (P : Sq) (es : List R4) (u0 : List Bool) (s i : Nat) (us : List Bool) (acc : List R4) : Prop where
  len : us.length = es.length
  mark : ∀ m, m < es.length → (us.getD m true = true ↔ u0.getD m true = true ∨ ge es m ∈ acc)
  way : (acc = [] ∧ i = s) ∨ ∃ t, acc = ge es s :: t ∧ Lk (Sx P) (ge es s) t (ge es i)
  nod : acc.Nodup
  sub : ∀ e ∈ acc, ∃ m, m < es.length ∧ ge es m = e ∧ u0.getD m true = false
  il : i < es.length
  i0 : u0.getD i true = false
theorem nodupU_le : ∀ {acc es : List R4}, acc.Nodup → (∀ e ∈ acc, e ∈ es) → acc.length ≤ es.length
  | [], es, _, _ => Nat.zero_le _
  | a :: t, es, hn, hs => by
    have hn2 := List.nodup_cons.1 hn
    have ha := hs a (by simp)
    have := nodupU_le (acc := t) (es := es.erase a) hn2.2 (fun e he => by
      have hne : e ≠ a := fun h => hn2.1 (h ▸ he)
      exact (List.mem_erase_of_ne hne).2 (hs e (by simp [he])))
    rw [List.length_erase_of_mem ha] at this
    have := List.length_pos_of_mem ha
    simp
    omega
theorem ChSt.sub' {u0 us : List Bool} {s i : Nat} {acc : List R4} (hst : ChSt P es u0 s i us acc) : ∀ e ∈ acc, e ∈ es := fun e he => by
  obtain ⟨m, hm, e1, _⟩ := hst.sub e he
  rw [← e1]
  exact ge_mem hm
theorem ChSt.bound {u0 us : List Bool} {s i : Nat} {acc : List R4} (hst : ChSt P es u0 s i us acc) : acc.length ≤ es.length := nodupU_le hst.nod hst.sub'
/-- An edge that was taken is the first one: the chain is closed. -/
theorem ChSt.stop (h : ESet P es) {u0 us : List Bool} {s i : Nat} {acc : List R4} (hst : ChSt P es u0 s i us acc) (hui : us.getD i true = true) : ∃ t, acc = ge es s :: t ∧ Ring1 P es (ge es s) t := by
  have hin : ge es i ∈ acc := by
    rcases (hst.mark i hst.il).1 hui with h1 | h1
    · rw [hst.i0] at h1; cases h1
    · exact h1
  rcases hst.way with ⟨rfl, _⟩ | ⟨t, rfl, hl⟩
  · simp at hin
  · have hie : ge es i = ge es s := by
      rcases List.mem_cons.1 hin with e | h1
      · exact e
      · exact (lk_fresh h hl hst.nod hst.sub' h1).elim
    rw [hie] at hl
    exact ⟨t, rfl, ⟨hl, hst.nod, hst.sub'⟩⟩
theorem ChSt.step (h : ESet P es) {u0 us : List Bool} {s i : Nat} {acc : List R4} (hsl : s < es.length) (hclo : ∀ a b, a < es.length → b < es.length → Sx P (ge es a) (ge es b) → (u0.getD a true = true ↔ u0.getD b true = true))
    (hst : ChSt P es u0 s i us acc) (hui : us.getD i true = false) : ∃ j, j < es.length ∧ nextU es (us.set i true) s i es.length = some j ∧ ChSt P es u0 s j (us.set i true) (acc ++ [ge es i]) := by
  have hiu : i < us.length := by rw [hst.len]; exact hst.il
  have hni : ge es i ∉ acc := fun hin => by
    rw [(hst.mark i hst.il).2 (.inr hin)] at hui
    cases hui
  obtain ⟨f, hf, hsx⟩ := h.tot (ge_mem hst.il)
  obtain ⟨j, hj, rfl⟩ := ge_of hf
  have hj0 : u0.getD j true = false := by
    rw [← Bool.not_eq_true]
    intro e
    have := (hclo i j hst.il hj hsx).2 e
    rw [hst.i0] at this
    cases this
  have hway : ∃ t, acc ++ [ge es i] = ge es s :: t ∧ Lk (Sx P) (ge es s) t (ge es j) := by
    rcases hst.way with ⟨rfl, rfl⟩ | ⟨t, rfl, hl⟩
    · exact ⟨[], rfl, hsx⟩
    · exact ⟨t ++ [ge es i], rfl, Lk.app.2 ⟨hl, hsx⟩⟩
  have hnod : (acc ++ [ge es i]).Nodup := by
    rw [List.nodup_append]
    exact ⟨hst.nod, by simp, fun a ha b hb e => by
      rw [List.mem_singleton] at hb
      subst hb
      exact hni (e ▸ ha)⟩
  have hsub2 : ∀ e ∈ acc ++ [ge es i], ∃ m, m < es.length ∧ ge es m = e ∧ u0.getD m true = false := fun e he => by
    rcases List.mem_append.1 he with h1 | h1
    · exact hst.sub e h1
    · rw [List.mem_singleton] at h1
      exact ⟨i, hst.il, h1.symm, hst.i0⟩
  have hmark : ∀ m, m < es.length → ((us.set i true).getD m true = true ↔ u0.getD m true = true ∨ ge es m ∈ acc ++ [ge es i]) := fun m hm => by
    rw [getD_set us i m hiu, Bool.or_eq_true, decide_eq_true_eq, hst.mark m hm, List.mem_append, List.mem_singleton]
    constructor
    · rintro (rfl | h1 | h1)
      · exact .inr (.inr rfl)
      · exact .inl h1
      · exact .inr (.inl h1)
    · rintro (h1 | h1 | h1)
      · exact .inr (.inl h1)
      · exact .inr (.inr h1)
      · exact .inl (ge_inj h.nod hm hst.il h1)
  have hcand : candB es (us.set i true) s i j = true := by
    unfold candB
    rw [Bool.and_eq_true, decide_eq_true_eq, Bool.or_eq_true, decide_eq_true_eq]
    refine ⟨hsx.1.symm, ?_⟩
    by_cases hjs : j = s
    · exact .inl hjs
    · right
      rw [Bool.not_eq_true', ← Bool.not_eq_true, hmark j hj]
      rintro (h1 | h1)
      · rw [hj0] at h1; cases h1
      · obtain ⟨t, e1, hl⟩ := hway
        have hsub3 : ∀ e ∈ ge es s :: t, e ∈ es := fun e he => by
          rw [← e1] at he
          obtain ⟨m, hm, e2, _⟩ := hsub2 e he
          rw [← e2]
          exact ge_mem hm
        rw [e1] at h1 hnod
        rcases List.mem_cons.1 h1 with e | h1
        · exact hjs (ge_inj h.nod hj hsl e)
        · exact lk_fresh h hl hnod hsub3 h1
  exact ⟨j, hj, next_sx h hst.il hj hsx hcand es.length (Nat.le_refl _) hj, ⟨by rw [List.length_set]; exact hst.len, hmark, .inr hway, hnod, hsub2, hj, hj0⟩⟩
/-- The rings that have been found, when some edges were tried. -/
structure RgSt (P : Sq) (es : List R4) (k : Nat) (us : List Bool) (cs : List (R4 × List R4)) : Prop where
  len : us.length = es.length
  mark : ∀ m, m < es.length → (us.getD m true = true ↔ ∃ c ∈ cs, ge es m ∈ c.1 :: c.2)
  ring : ∀ c ∈ cs, Ring1 P es c.1 c.2
  apart : cs.Pairwise fun a b => ∀ e, e ∈ a.1 :: a.2 → e ∉ b.1 :: b.2
  seen : ∀ m, m < k → m < es.length → us.getD m true = true
theorem RgSt.start (P : Sq) (es : List R4) : RgSt P es 0 (List.replicate es.length false) [] :=
  ⟨by simp, fun m hm => by rw [List.getD_eq_getElem?_getD, List.getElem?_replicate, if_pos hm]; simp, by simp, List.Pairwise.nil, fun m hm => by omega⟩
theorem RgSt.skip {k : Nat} {us : List Bool} {cs : List (R4 × List R4)} (h : RgSt P es k us cs) (hu : us.getD k true = true) : RgSt P es (k + 1) us cs :=
  ⟨h.len, h.mark, h.ring, h.apart, fun m hm hl => by
    rcases Nat.lt_or_ge m k with h1 | h1
    · exact h.seen m h1 hl
    · have : m = k := by omega
      subst this
      exact hu⟩
theorem RgSt.clo (hE : ESet P es) {k : Nat} {us : List Bool} {cs : List (R4 × List R4)} (h : RgSt P es k us cs) : ∀ a b, a < es.length → b < es.length → Sx P (ge es a) (ge es b) → (us.getD a true = true ↔ us.getD b true = true) := fun a b ha hb hs => by
  rw [h.mark a ha, h.mark b hb]
  constructor
  · rintro ⟨c, hc, h1⟩
    exact ⟨c, hc, ((h.ring c hc).clo hE (ge_mem ha) (ge_mem hb) hs).1 h1⟩
  · rintro ⟨c, hc, h1⟩
    exact ⟨c, hc, ((h.ring c hc).clo hE (ge_mem ha) (ge_mem hb) hs).2 h1⟩
theorem RgSt.first {k : Nat} {us : List Bool} {cs : List (R4 × List R4)} (h : RgSt P es k us cs) (hk : k < es.length) (hu : us.getD k true = false) : ChSt P es us k k us [] :=
  ⟨h.len, fun m hm => by simp, .inl ⟨rfl, rfl⟩, List.nodup_nil, by simp, hk, hu⟩
theorem RgSt.take {k i : Nat} {u0 us : List Bool} {cs : List (R4 × List R4)} {t : List R4} (h : RgSt P es k u0 cs) (hst : ChSt P es u0 k i us (ge es k :: t)) (hr : Ring1 P es (ge es k) t) : RgSt P es (k + 1) us (cs ++ [(ge es k, t)]) := by
  refine ⟨hst.len, fun m hm => ?_, fun c hc => ?_, ?_, fun m hm hl => ?_⟩
  · rw [hst.mark m hm, h.mark m hm]
    constructor
    · rintro (⟨c, hc, h6⟩ | h6)
      · exact ⟨c, List.mem_append.2 (.inl hc), h6⟩
      · exact ⟨_, List.mem_append.2 (.inr (List.mem_singleton.2 rfl)), h6⟩
    · rintro ⟨c, hc, h6⟩
      rcases List.mem_append.1 hc with hc | hc
      · exact .inl ⟨c, hc, h6⟩
      · rw [List.mem_singleton] at hc
        subst hc
        exact .inr h6
  · rcases List.mem_append.1 hc with hc | hc
    · exact h.ring c hc
    · rw [List.mem_singleton] at hc
      subst hc
      exact hr
  · rw [List.pairwise_append]
    refine ⟨h.apart, List.pairwise_singleton _ _, fun a ha b hb e he hf => ?_⟩
    rw [List.mem_singleton] at hb
    subst hb
    obtain ⟨m, hm, e1, h6⟩ := hst.sub e hf
    rw [← e1] at he
    rw [(h.mark m hm).2 ⟨a, ha, he⟩] at h6
    cases h6
  · rw [hst.mark m hl]
    rcases Nat.lt_or_ge m k with h6 | h6
    · exact .inl (h.seen m h6 hl)
    · have : m = k := by omega
      subst this
      exact .inr (by simp)
theorem RgSt.done {us : List Bool} {cs : List (R4 × List R4)} (h : RgSt P es es.length us cs) : Rings P es cs :=
  ⟨h.ring, fun e he => by
    obtain ⟨m, hm, rfl⟩ := ge_of he
    exact (h.mark m hm).1 (h.seen m hm hm), h.apart⟩
/-- The corners of a closed line of edges. -/
def corAt (r : List R4) (i : Nat) : List Pt := if levE (ge r i) != levE (ge r ((i + r.length - 1) % r.length)) then [frOf (ge r i)] else []
def cornL (r : List R4) (k : Nat) : List Pt := (List.range k).flatMap (corAt r)
theorem cornL_succ (r : List R4) (k : Nat) : cornL r (k + 1) = cornL r k ++ corAt r k := by unfold cornL; rw [List.range_succ, List.flatMap_append]; simp
theorem cornL_len (r : List R4) : ∀ k, (cornL r k).length ≤ k
  | 0 => by simp [cornL]
  | k + 1 => by
    have := cornL_len r k
    rw [cornL_succ, List.length_append]
    unfold corAt
    split <;> simp <;> omega
theorem lev_dir {e : R4} (h : StE e) : levE e = (decide (dirOf e = .ri) || decide (dirOf e = .le)) := by
  obtain ⟨l, b, r, t⟩ := e
  unfold StE at h
  unfold levE dirOf
  dsimp only at *
  by_cases h1 : l < r
  · rw [if_pos h1]; simp; omega
  · rw [if_neg h1]
    by_cases h2 : r < l
    · rw [if_pos h2]; simp; omega
    · rw [if_neg h2]
      by_cases h3 : b < t
      · rw [if_pos h3]; simp; omega
      · rw [if_neg h3]; simp; omega
theorem sx_lev (h : ESet P es) {e f : R4} (he : e ∈ es) (hf : f ∈ es) (hs : Sx P e f) : (levE f != levE e) = decide (dirOf e ≠ dirOf f) := by
  rw [lev_dir (h.st e he), lev_dir (h.st f hf)]
  have := nxB_turn (dirOf e) _ _ _ _ (h.arr he)
  have e1 := hs.2
  unfold nxd at e1
  rw [← e1] at this
  generalize dirOf e = d at *
  generalize dirOf f = d' at *
  clear e1 hs
  rcases this with h9 | h9 | h9 <;> rw [h9] <;> clear h9 <;> revert d <;> intro d <;> cases d <;> decide
/-- The corners within a chain. -/
theorem cor_pairs (h : ESet P es) : ∀ (t : List R4) (a : R4), (∀ e ∈ a :: t, e ∈ es) → (∀ i, i + 1 < (a :: t).length → Sx P (ge (a :: t) i) (ge (a :: t) (i + 1))) →
    ((List.range t.length).flatMap fun i => if levE (ge (a :: t) (i + 1)) != levE (ge (a :: t) i) then [frOf (ge (a :: t) (i + 1))] else []) = (cor a t).map (·.1)
  | [], a, hs, hl => by simp [cor]
  | b :: t, a, hs, hl => by
    have ih := cor_pairs h t b (fun e he => hs e (List.mem_cons_of_mem _ he)) (fun i hi => by
      have := hl (i + 1) (by simp at hi ⊢; omega)
      exact this)
    have h0 : Sx P a b := hl 0 (by simp)
    rw [List.length_cons, List.range_succ_eq_map, List.flatMap_cons, List.flatMap_map, cor_two, List.map_append, ← ih]
    congr 1
    · show (if levE b != levE a then [frOf b] else []) = _
      rw [sx_lev h (hs a (by simp)) (hs b (by simp)) h0]
      by_cases hd : dirOf a = dirOf b
      · rw [if_pos hd, if_neg (by simp [hd])]; rfl
      · rw [if_neg hd, if_pos (by simp [hd]), ← h0.1]; rfl
theorem lkE_at {a z : R4} : ∀ {t : List R4} {a : R4}, Lk (Sx P) a t z → (∀ i, i + 1 < (a :: t).length → Sx P (ge (a :: t) i) (ge (a :: t) (i + 1))) ∧ Sx P (ge (a :: t) t.length) z
  | [], a, h => ⟨fun i hi => by simp at hi, h⟩
  | b :: t, a, h => by
    obtain ⟨h1, h2⟩ := lkE_at (a := b) h.2
    refine ⟨fun i hi => ?_, h2⟩
    rcases i with _ | i
    · exact h.1
    · exact h1 i (by simp at hi ⊢; omega)
theorem cor_snoc (z : R4) : ∀ (t : List R4) (a : R4), cor a (t ++ [z]) = cor a t ++ (if dirOf (ge (a :: t) t.length) = dirOf z then [] else [(toOf (ge (a :: t) t.length), dirOf z)])
  | [], a => by rw [List.nil_append, cor_two]; simp [cor, ge]
  | b :: t, a => by
    rw [List.cons_append, cor_two, cor_two, cor_snoc z t b, List.append_assoc]
    rfl
/-- The reference's corners of a ring, begun at the lowest one. -/
theorem corners_ring (h : ESet P es) {a : R4} {t : List R4} (hr : Ring1 P es a t) : begunP (cornL (a :: t) (a :: t).length) = ringOf (a, t) := by
  obtain ⟨hp, hz⟩ := lkE_at (a := a) (z := a) hr.lk
  have hlast : ge (a :: t) t.length ∈ es := hr.sub _ (ge_mem (by simp))
  have ha : a ∈ es := hr.sub a (by simp)
  obtain ⟨B, hB⟩ : ∃ B : List PD, B = if dirOf (ge (a :: t) t.length) = dirOf a then [] else [(toOf (ge (a :: t) t.length), dirOf a)] := ⟨_, rfl⟩
  have e1 : crn (a, t) = cor a t ++ B := by rw [hB]; exact cor_snoc a t a
  have e2 : cornL (a :: t) (a :: t).length = (B ++ cor a t).map (·.1) := by
    unfold cornL
    rw [List.length_cons, List.range_succ_eq_map, List.flatMap_cons, List.flatMap_map, List.map_append]
    congr 1
    · unfold corAt
      rw [List.length_cons, show (0 + (t.length + 1) - 1) % (t.length + 1) = t.length by rw [show 0 + (t.length + 1) - 1 = t.length by omega]; exact Nat.mod_eq_of_lt (by omega)]
      show (if levE a != levE (ge (a :: t) t.length) then [frOf a] else []) = _
      rw [sx_lev h hlast ha hz, hB]
      by_cases hd : dirOf (ge (a :: t) t.length) = dirOf a
      · rw [if_pos hd, if_neg (by simp [hd])]; rfl
      · rw [if_neg hd, if_pos (by simp [hd]), hz.1]; rfl
    · rw [← cor_pairs h t a hr.sub hp]
      rw [List.flatMap, List.flatMap]
      congr 1
      refine List.map_congr_left fun i hi => ?_
      rw [List.mem_range] at hi
      show corAt (a :: t) (i + 1) = _
      unfold corAt
      rw [List.length_cons, show i + 1 + (t.length + 1) - 1 = i + (t.length + 1) by omega, Nat.add_mod_right, Nat.mod_eq_of_lt (show i < t.length + 1 by omega)]
  obtain ⟨c, m, k1, k2, _⟩ := ring_cor h hr
  have k1' : crn (a, t) = c :: m := k1
  have hcy : cycL (Nx P) (cor a t ++ B) := by rw [← e1, k1']; exact k2
  have hnd : (crn (a, t)).Nodup := cor_nodup h hr
  have hp2 : (B ++ cor a t).Perm (crn (a, t)) := by rw [e1]; exact List.perm_append_comm
  obtain ⟨y, l, g1, g2⟩ := begD_ring (P := P) (l := B ++ cor a t) (fun e => by
    have := hp2.length_eq
    rw [e, k1'] at this
    simp at this) (cycL_rot hcy) (hp2.nodup_iff.2 hnd)
  obtain ⟨y', l', g3, g4⟩ := crn_ring (c := (a, t)) h hr
  have hperm : (y :: l).Perm (y' :: l') := by
    rw [← g1, ← g3]
    exact (begD_perm _).trans (hp2.trans (begD_perm _).symm)
  have hy1 : ¬ lowB y.1 y'.1 := by
    rcases List.mem_cons.1 (hperm.mem_iff.1 (List.mem_cons_self (a := y) (l := l))) with e | hy
    · rw [← e]; unfold lowB; omega
    · exact g4.low y hy
  have hy2 : ¬ lowB y'.1 y.1 := by
    rcases List.mem_cons.1 (hperm.mem_iff.2 (List.mem_cons_self (a := y') (l := l'))) with e | hy
    · rw [← e]; unfold lowB; omega
    · exact g2.low y' hy
  obtain ⟨r1, r2⟩ := g2.eq g4 (low_eq hy1 hy2)
  rw [e2, ← begD_map, g1, ringOf_eq, g3, r1, r2]
/-- Rings in order, and one more put into its place. -/
def ordR (a b : List Pt) : Prop := befR b a = false
theorem befR_trans {a b c : List Pt} (h1 : ordR a b) (h2 : ordR b c) : ordR a c := by
  unfold ordR at *
  rw [← Bool.not_eq_true, befR_iff] at *
  omega
theorem befR_asym {a b : List Pt} (h : befR a b = true) : ordR a b := by
  unfold ordR
  rw [← Bool.not_eq_true, befR_iff]
  rw [befR_iff] at h
  omega
/-- While a ring sinks to its place. -/
structure SinkL (L0 L : List (List Pt)) (i k : Nat) : Prop where
  perm : L.Perm L0
  form : ∃ A x B C, L = A ++ x :: (B ++ C) ∧ A.length = k ∧ A.length + B.length = i ∧ (A ++ B).Pairwise ordR ∧ ∀ b ∈ B, ordR x b
structure SortL (L0 L : List (List Pt)) (i : Nat) : Prop where
  perm : L.Perm L0
  ord : (L.take i).Pairwise ordR
theorem SortL.start (L0 : List (List Pt)) : SortL L0 L0 0 := ⟨List.Perm.refl _, by simp⟩
theorem SortL.sink {L0 L : List (List Pt)} {i : Nat} (h : SortL L0 L i) (hi : i < L.length) : SinkL L0 L i i := by
  refine ⟨h.perm, L.take i, L[i], [], L.drop (i + 1), ?_, by simp; omega, by simp; omega, by simpa using h.ord, by simp⟩
  rw [List.nil_append, ← List.drop_eq_getElem_cons hi, List.take_append_drop]
theorem SinkL.swap {L0 L : List (List Pt)} {i k : Nat} (h : SinkL L0 L i (k + 1)) (h1 : k + 1 < L.length) (hb : befR L[k + 1] L[k] = true) : SinkL L0 ((L.set k L[k + 1]).set (k + 1) L[k]) i k := by
  obtain ⟨hp, A, x, B, C, rfl, e1, e2, h2, h3⟩ := h
  obtain ⟨A', a, rfl⟩ : ∃ A' a, A = A' ++ [a] := by
    rcases list_snoc A with rfl | h
    · simp at e1
    · exact h
  have hk : A'.length = k := by simp at e1; omega
  have x1 : (A' ++ [a] ++ x :: (B ++ C))[k + 1] = x := by
    rw [List.getElem_append_right (by simp; omega)]
    simp [hk]
  have x0 : (A' ++ [a] ++ x :: (B ++ C))[k] = a := by
    rw [List.getElem_append_left (by simp; omega), List.getElem_append_right (by omega)]
    simp [hk]
  rw [x1, x0] at hb ⊢
  have eL : ((A' ++ [a] ++ x :: (B ++ C)).set k x).set (k + 1) a = A' ++ x :: (a :: B ++ C) := by
    subst hk
    rw [show A' ++ [a] ++ x :: (B ++ C) = A' ++ (a :: x :: (B ++ C)) by simp]
    rw [List.set_append_right _ _ (Nat.le_refl _), Nat.sub_self, List.set_cons_zero, List.set_append_right _ _ (by omega), show A'.length + 1 - A'.length = 1 by omega, List.set_cons_succ, List.set_cons_zero]
    rfl
  rw [eL]
  refine ⟨List.Perm.trans ?_ hp, A', x, a :: B, C, rfl, hk, by simp at e2 ⊢; omega, by simpa using h2, fun b hbm => ?_⟩
  · rw [show A' ++ [a] ++ x :: (B ++ C) = A' ++ (a :: x :: (B ++ C)) by simp]
    exact List.Perm.append_left A' (List.Perm.swap a x (B ++ C))
  · rcases List.mem_cons.1 hbm with rfl | hbm
    · exact befR_asym hb
    · exact h3 b hbm
theorem SinkL.done {L0 L : List (List Pt)} {i k : Nat} (h : SinkL L0 L i k) (hd : k = 0 ∨ ∃ (h0 : 0 < k) (h1 : k < L.length), befR L[k] (L[k - 1]'(by omega)) = false) : SortL L0 L (i + 1) := by
  obtain ⟨hp, A, x, B, C, rfl, e1, e2, h2, h3⟩ := h
  refine ⟨hp, ?_⟩
  have et : (A ++ x :: (B ++ C)).take (i + 1) = A ++ x :: B := by
    rw [← e2, show A ++ x :: (B ++ C) = (A ++ x :: B) ++ C by simp]
    exact List.take_left' (by simp; omega)
  rw [et]
  have h4 := List.pairwise_append.1 h2
  have hA : ∀ a ∈ A, ordR a x := by
    rcases hd with rfl | ⟨h0, h1, hb⟩
    · have : A = [] := List.length_eq_zero_iff.1 e1
      subst this
      simp
    · obtain ⟨A', a, rfl⟩ : ∃ A' a, A = A' ++ [a] := by
        rcases list_snoc A with rfl | h
        · simp at e1; omega
        · exact h
      have hk : A'.length + 1 = k := by simp at e1; omega
      subst hk
      have x1 : (A' ++ [a] ++ x :: (B ++ C))[A'.length + 1] = x := by
        rw [List.getElem_append_right (by simp)]
        simp
      have x0 : (A' ++ [a] ++ x :: (B ++ C))[A'.length + 1 - 1]'(by omega) = a := by
        rw [List.getElem_append_left (by simp), List.getElem_append_right (by omega)]
        simp
      rw [x1, x0] at hb
      have h5 := List.pairwise_append.1 h4.1
      intro b hbm
      rcases List.mem_append.1 hbm with hbm | hbm
      · exact befR_trans (h5.2.2 b hbm a (by simp)) hb
      · rw [List.mem_singleton] at hbm
        subst hbm
        exact hb
  rw [List.pairwise_append]
  exact ⟨h4.1, List.pairwise_cons.2 ⟨h3, h4.2.1⟩, fun a ha b hb => by
    rcases List.mem_cons.1 hb with rfl | hb
    · exact hA a ha
    · exact h4.2.2 a ha b hb⟩
theorem SinkL.len {L0 L : List (List Pt)} {i k : Nat} (h : SinkL L0 L i k) : k < L.length ∧ k ≤ i := by
  obtain ⟨hp, A, x, B, C, rfl, e1, e2, h2, h3⟩ := h
  simp
  omega
end Go.Proofs.YtpcfhcdbibklcaaGreat
namespace Go.Proofs.YtpcfhcdbibklcaaGreat
open Go.RowKit
set_option linter.unusedVariables false
set_option linter.unusedSimpArgs false

theorem edgesR_len (l : List R4) (hl : l.length ≤ 120) : (edgesR l).length ≤ 230400 := by
  have hxs : (xsR l).length ≤ 240 := by have := xsOf_len l; show (xsOf l).length ≤ 240; omega
  have hys : (ysR l).length ≤ 240 := by have := ysOf_len l; show (ysOf l).length ≤ 240; omega
  have h1 := rowsE_len l (xsR l) (ysR l) ((ysR l).length - 1)
  have h2 : ((ysR l).length - 1) * (4 * ((xsR l).length - 1)) ≤ 240 * (4 * 240) := Nat.mul_le_mul (by omega) (by omega)
  exact Nat.le_trans h1 h2
theorem edgesR_in (l : List R4) (n : Nat) (hl : InS n l) : ∀ e ∈ edgesR l, inB4 n e := by
  have h := lines_of hl
  intro e he
  obtain ⟨k, hk, he⟩ := List.mem_flatMap.1 he
  obtain ⟨i, hi, he⟩ := List.mem_flatMap.1 he
  rw [List.mem_range] at hk hi
  have b1 := h.bx _ (mem_getD (ys := xsR l) (k := i) (by omega))
  have b2 := h.bx _ (mem_getD (ys := xsR l) (k := i + 1) (by omega))
  have b3 := h.by_ _ (mem_getD (ys := ysR l) (k := k) (by omega))
  have b4 := h.by_ _ (mem_getD (ys := ysR l) (k := k + 1) (by omega))
  unfold cellR at he
  generalize (xsR l).getD i 0 = x at *
  generalize (xsR l).getD (i + 1) 0 = x' at *
  generalize (ysR l).getD k 0 = y at *
  generalize (ysR l).getD (k + 1) 0 = y' at *
  have one : ∀ (b : Bool) (q : R4), e ∈ (if b then [] else [q]) → e = q := fun b q hq => by cases b <;> simp at hq; exact hq
  split at he
  · rw [List.mem_append, List.mem_append, List.mem_append] at he
    unfold inB4
    rcases he with ((he | he) | he) | he
    all_goals
      rw [one _ _ he]
      simp only
      omega
  · cases he
set_option maxHeartbeats 8000000 in
set_option maxRecDepth 100000 in
theorem bord5_any (A : Option Addr) (n c : Nat) (l : List R4) (w : World) (hA : SlR w A n c l) :
    Calls Tryz.prog 24 #[.agg #[.slice A n c]] w fun e w' => e = .returned (.tuple #[.int .i64 (bordV l).1, .int .i64 (bordV l).2]) ∧ Below w.heap.size w w' := by
  have hnl := hA.len
  have HA := Lib.hid hA
  have HV := Lib.hid (fun W (hW : SlR W A n c l) => validR_any A n c l W hW)
  cases hv : validP l with
  | false =>
    rw [hv] at HV
    have Hb : Hid (bordV l = (0, 7)) := Lib.hid (by unfold bordV; rw [hv]; rfl)
    generalize bordV l = res at *
    clear hA hv
    go_enter Tryz.func24, Tryz.ntmps24
    go_wp2_with (first
      | (go_at_call 30
         refine (HV.out _ (HA.out.below (by repeat' (first | with_reducible exact Below.refl _ _ | with_reducible refine below_drewN ?_ _ | with_reducible refine Below.drew ?_ | with_reducible refine Below.alloc ?_ ?_ _ | with_reducible refine Below.setCell ?_ ?_ _ | with_reducible refine Below.trans ?_ (Below.mono (by with_reducible assumption) ?_) | (simp; done) | (simp; omega) | omega)))).mono ?_
         rintro e w1 ⟨rfl, hb1⟩
         have Hb1 := Lib.hid hb1
         clear hb1)
      | fail)
    refine bodyPost_ret (v := .tuple #[.int .i64 0, .int .i64 7]) (by simp [results, Tryz.results24, go_sem, *]) rfl ?_
    rw [Hb.out]
    exact ⟨rfl, by have hbq := Hb1.out; exact (by repeat' (first | with_reducible exact Below.refl _ _ | with_reducible assumption | with_reducible refine below_drewN ?_ _ | with_reducible refine Below.drew ?_ | with_reducible refine Below.alloc ?_ ?_ _ | with_reducible refine Below.setCell ?_ ?_ _ | with_reducible refine Below.trans ?_ (Below.mono (by with_reducible assumption) ?_) | with_reducible refine below_only ?_ (by with_reducible assumption) ?_ ?_ | (simp; done) | (simp; omega) | omega))⟩
  | true =>
    rw [hv] at HV
    have Hb : Hid (bordV l = (bordP l, 0)) := Lib.hid (by unfold bordV; rw [hv]; rfl)
    obtain ⟨hl120, hok, _⟩ := valid_parts hv
    have HE := Lib.hid (fun W (hW : SlR W A n c l) => edges5_any A n c l W hW (by omega))
    have Hel : Hid ((edgesR l).length ≤ 230400) := Lib.hid (edgesR_len l hl120)
    have Hei : Hid (∀ e ∈ edgesR l, inB4 16384 e) := Lib.hid (edgesR_in l 16384 (ok_in hok))
    have Hbp : Hid (bordP l = sumL len1 (edgesR l)) := Lib.hid ((bordP_true l 16384 (by omega) (ok_in hok)).trans (bordR_true l 16384 (ok_in hok)).symm)
    generalize bordV l = res at *
    generalize bordP l = bp at *
    generalize edgesR l = es at *
    clear hA hv hok
    go_enter Tryz.func24, Tryz.ntmps24
    go_upto_region 3 with (first
      | (go_at_call 30
         refine (HV.out _ (HA.out.below (by repeat' (first | with_reducible exact Below.refl _ _ | with_reducible refine below_drewN ?_ _ | with_reducible refine Below.drew ?_ | with_reducible refine Below.alloc ?_ ?_ _ | with_reducible refine Below.setCell ?_ ?_ _ | with_reducible refine Below.trans ?_ (Below.mono (by with_reducible assumption) ?_) | (simp; done) | (simp; omega) | omega)))).mono ?_
         rintro e w1 ⟨rfl, hb1⟩
         have Hb1 : Hid (Below w.heap.size w w1) := Lib.hid (by have hbq := hb1; exact (by repeat' (first | with_reducible exact Below.refl _ _ | with_reducible assumption | with_reducible refine below_drewN ?_ _ | with_reducible refine Below.drew ?_ | with_reducible refine Below.alloc ?_ ?_ _ | with_reducible refine Below.setCell ?_ ?_ _ | with_reducible refine Below.trans ?_ (Below.mono (by with_reducible assumption) ?_) | with_reducible refine below_only ?_ (by with_reducible assumption) ?_ ?_ | (simp; done) | (simp; omega) | omega)))
         have hr1 : w1.heap[w.heap.size]? = some (.cells #[.slice A n c] 25 (0, 0)) := (hb1.block _ (by simp)).trans (heap_alloc_new w _)
         have c1 := cell_of_row w1 w.heap.size 0 _ _ _ hr1
         have hs1 := Hb1.out.size
         clear hb1 hr1)
      | fail)
    have HA1 := Lib.hid (HA.out.below Hb1.out)
    go_upto_region 5 with (first
      | (go_at_call 46
         refine (HE.out _ HA1.out).mono ?_
         rintro e w2 ⟨v2, rfl, hown2, hb2⟩
         obtain ⟨E, ec, rfl, hEl, hEc, hEm⟩ := own_slice hown2
         have HEl := Lib.hid hEl
         have Hb2 : Hid (Below w.heap.size w w2) := Lib.hid (Hb1.out.trans (hb2.mono hs1))
         clear hown2 hb2 hEl)
      | fail)
    have hs2 := Hb2.out.size
    go_loopw [4, 6, 13] (fun s _ i wr => ∃ j : Nat, j ≤ es.length ∧ i = .int .i64 (j : Int) ∧ s = .int .i64 (sumL len1 (es.take j)) ∧ Below w2.heap.size w2 wr) (fun _ _ i _ => es.length - (intOf i).toNat)
    case atStart => exact ⟨0, Nat.zero_le _, rfl, rfl, Below.refl _ _⟩
    case round =>
      obtain ⟨j, hj, rfl, rfl, hbr⟩ := hrel
      have hsr := hbr.size
      have Hbr := Lib.hid hbr
      by_cases hjn : j < es.length
      · obtain ⟨b, off, hEe, hb, c0, c1', c2, c3⟩ := lies_r (HEl.out.below hbr) j hjn hjn
        subst hEe
        have Hst := Lib.hid (sumL_take_succ len1 es j hjn)
        have hsb := sumL_bd (take_in Hei.out j)
        have hel := Hel.out
        have hei := Hei.out es[j] (List.getElem_mem hjn)
        have hlb := len1_bd hei
        rw [List.length_take] at hsb
        have hsb2 : 0 ≤ sumL len1 (es.take j) ∧ sumL len1 (es.take j) ≤ 4000000000000 := by
          have h1 : ((min j es.length : Nat) : Int) ≤ 230400 := by omega
          have h2 : ((min j es.length : Nat) : Int) * (2 * 16384) ≤ 230400 * (2 * 16384) := Int.mul_le_mul_of_nonneg_right h1 (by omega)
          omega
        have hld : len1 es[j] = max (es[j].r - es[j].l) (es[j].l - es[j].r) + max (es[j].t - es[j].b) (es[j].b - es[j].t) := rfl
        unfold inB4 at hei
        generalize es[j] = q at *
        generalize sumL len1 (es.take j) = sm at *
        generalize len1 q = lq at *
        have hjn' : (j : Int) < (es.length : Int) := by omega
        have w1' : IntKind.i64.wrap (q.r - q.l) = q.r - q.l := IntWalk.i64_in _ (by omega)
        have w2' : IntKind.i64.wrap (q.l - q.r) = q.l - q.r := IntWalk.i64_in _ (by omega)
        have w3' : IntKind.i64.wrap (q.t - q.b) = q.t - q.b := IntWalk.i64_in _ (by omega)
        have w4' : IntKind.i64.wrap (q.b - q.t) = q.b - q.t := IntWalk.i64_in _ (by omega)
        have w5' : IntKind.i64.wrap (max (q.r - q.l) (q.l - q.r) + max (q.t - q.b) (q.b - q.t)) = lq := by rw [← hld]; exact IntWalk.i64_in _ (by omega)
        have w6' : IntKind.i64.wrap (sm + lq) = sm + lq := IntWalk.i64_in _ (by omega)
        clear hbr hsb hlb hld hei
        go_wp2
        go_roundw
        case rel => exact ⟨j + 1, by omega, by go_num, by rw [Hst.out], Hbr.out.alloc hsr _⟩
        case measure => simp [intOf]; omega
      · have Hfin : Hid (sumL len1 (es.take j) = bp) := Lib.hid (by rw [List.take_of_length_le (by omega), Hbp.out])
        generalize sumL len1 (es.take j) = sm at *
        have hjn' : ¬ (j : Int) < (es.length : Int) := by omega
        clear hbr
        go_wp2
        refine bodyPost_ret (v := .tuple #[.int .i64 sm, .int .i64 0]) (by simp [results, Tryz.results24, go_sem, *]) rfl ?_
        rw [Hb.out, Hfin.out]
        exact ⟨rfl, Hb2.out.trans (Hbr.out.mono hs2)⟩
end Go.Proofs.YtpcfhcdbibklcaaGreat
namespace Go.Proofs.YtpcfhcdbibklcaaGreat
open Go.RowKit Go.Shelf
set_option linter.unusedVariables false
set_option linter.unusedSimpArgs false

def befP (p q : Pt) : Bool := decide (lowP p q < 0)
theorem befP_eq (p q : Pt) : befP p q = (decide (p.2 < q.2) || (decide (p.2 = q.2) && decide (p.1 < q.1))) := by
  unfold befP
  rw [Bool.eq_iff_iff, decide_eq_true_eq, lowP_neg]
  unfold lowB
  simp
theorem level5_any (e : R4) (w : World) : Calls Tryz.prog 83 #[.agg #[.int .i64 e.l, .int .i64 e.b, .int .i64 e.r, .int .i64 e.t]] w fun r w' => r = .returned (.bool (levE e)) ∧ Below w.heap.size w w' := by
  obtain ⟨l, b, r, t⟩ := e
  unfold levE
  dsimp only
  by_cases h : b = t
  · subst h
    rw [decide_eq_true rfl]
    go_enter Tryz.func83, Tryz.ntmps83
    go_wp2
    go_ret
    exact ⟨by simp, (by repeat' (first | with_reducible exact Below.refl _ _ | with_reducible refine below_drewN ?_ _ | with_reducible refine Below.drew ?_ | with_reducible refine Below.alloc ?_ ?_ _ | with_reducible refine Below.setCell ?_ ?_ _ | with_reducible refine Below.trans ?_ (Below.mono (by with_reducible assumption) ?_) | (simp; done) | (simp; omega) | omega))⟩
  · rw [decide_eq_false h]
    go_enter Tryz.func83, Tryz.ntmps83
    go_wp2
    go_ret
    exact ⟨by simp [h], (by repeat' (first | with_reducible exact Below.refl _ _ | with_reducible refine below_drewN ?_ _ | with_reducible refine Below.drew ?_ | with_reducible refine Below.alloc ?_ ?_ _ | with_reducible refine Below.setCell ?_ ?_ _ | with_reducible refine Below.trans ?_ (Below.mono (by with_reducible assumption) ?_) | (simp; done) | (simp; omega) | omega))⟩
set_option maxHeartbeats 4000000 in
theorem before5_any (p q : Pt) (w : World) : Calls Tryz.prog 49 #[.agg #[.int .i64 p.1, .int .i64 p.2], .agg #[.int .i64 q.1, .int .i64 q.2]] w fun r w' => r = .returned (.bool (befP p q)) ∧ Below w.heap.size w w' := by
  rw [befP_eq]
  obtain ⟨a, b⟩ := p
  obtain ⟨c, d⟩ := q
  dsimp only
  by_cases h1 : b < d
  · rw [decide_eq_true h1, Bool.true_or]
    go_enter Tryz.func49, Tryz.ntmps49
    go_wp2
    go_ret
    exact ⟨rfl, (by repeat' (first | with_reducible exact Below.refl _ _ | with_reducible refine below_drewN ?_ _ | with_reducible refine Below.drew ?_ | with_reducible refine Below.alloc ?_ ?_ _ | with_reducible refine Below.setCell ?_ ?_ _ | with_reducible refine Below.trans ?_ (Below.mono (by with_reducible assumption) ?_) | (simp; done) | (simp; omega) | omega))⟩
  · rw [decide_eq_false h1, Bool.false_or]
    by_cases h2 : b = d
    · subst h2
      rw [decide_eq_true rfl, Bool.true_and]
      by_cases h3 : a < c
      · rw [decide_eq_true h3]
        go_enter Tryz.func49, Tryz.ntmps49
        go_wp2
        go_ret
        exact ⟨by simp [h3], (by repeat' (first | with_reducible exact Below.refl _ _ | with_reducible refine below_drewN ?_ _ | with_reducible refine Below.drew ?_ | with_reducible refine Below.alloc ?_ ?_ _ | with_reducible refine Below.setCell ?_ ?_ _ | with_reducible refine Below.trans ?_ (Below.mono (by with_reducible assumption) ?_) | (simp; done) | (simp; omega) | omega))⟩
      · rw [decide_eq_false h3]
        go_enter Tryz.func49, Tryz.ntmps49
        go_wp2
        go_ret
        exact ⟨by simp [h3], (by repeat' (first | with_reducible exact Below.refl _ _ | with_reducible refine below_drewN ?_ _ | with_reducible refine Below.drew ?_ | with_reducible refine Below.alloc ?_ ?_ _ | with_reducible refine Below.setCell ?_ ?_ _ | with_reducible refine Below.trans ?_ (Below.mono (by with_reducible assumption) ?_) | (simp; done) | (simp; omega) | omega))⟩
    · rw [decide_eq_false h2, Bool.false_and]
      go_enter Tryz.func49, Tryz.ntmps49
      go_wp2
      go_ret
      exact ⟨by simp [h2], (by repeat' (first | with_reducible exact Below.refl _ _ | with_reducible refine below_drewN ?_ _ | with_reducible refine Below.drew ?_ | with_reducible refine Below.alloc ?_ ?_ _ | with_reducible refine Below.setCell ?_ ?_ _ | with_reducible refine Below.trans ?_ (Below.mono (by with_reducible assumption) ?_) | (simp; done) | (simp; omega) | omega))⟩
theorem mul_small {a b : Int} (ha : -16384 ≤ a ∧ a ≤ 16384) (hb : -16384 ≤ b ∧ b ≤ 16384) : -268435456 ≤ a * b ∧ a * b ≤ 268435456 := by
  have h1 : (a * b).natAbs ≤ 16384 * 16384 := by
    rw [Int.natAbs_mul]
    exact Nat.mul_le_mul (by omega) (by omega)
  omega
set_option maxHeartbeats 4000000 in
theorem left5_any (e f : R4) (he : inB4 16384 e) (hf : inB4 16384 f) (w : World) : Calls Tryz.prog 47 #[.agg #[.int .i64 e.l, .int .i64 e.b, .int .i64 e.r, .int .i64 e.t], .agg #[.int .i64 f.l, .int .i64 f.b, .int .i64 f.r, .int .i64 f.t]] w fun r w' => r = .returned (.bool (leftI e f)) ∧ Below w.heap.size w w' := by
  obtain ⟨l, b, r, t⟩ := e
  obtain ⟨l', b', r', t'⟩ := f
  unfold inB4 at he hf
  have Hr : Hid (leftI ⟨l, b, r, t⟩ ⟨l', b', r', t'⟩ = decide (0 < (r - l) * (t' - b') - (t - b) * (r' - l'))) := Lib.hid rfl
  generalize leftI ⟨l, b, r, t⟩ ⟨l', b', r', t'⟩ = res at *
  dsimp only at *
  have m1 := mul_small (a := r - l) (b := t' - b') (by omega) (by omega)
  have m2 := mul_small (a := t - b) (b := r' - l') (by omega) (by omega)
  have w1 : IntKind.i64.wrap (r - l) = r - l := IntWalk.i64_in _ (by omega)
  have w2 : IntKind.i64.wrap (t' - b') = t' - b' := IntWalk.i64_in _ (by omega)
  have w3 : IntKind.i64.wrap (t - b) = t - b := IntWalk.i64_in _ (by omega)
  have w4 : IntKind.i64.wrap (r' - l') = r' - l' := IntWalk.i64_in _ (by omega)
  obtain ⟨u, hu⟩ : ∃ u, (r - l) * (t' - b') = u := ⟨_, rfl⟩
  obtain ⟨v, hv⟩ : ∃ v, (t - b) * (r' - l') = v := ⟨_, rfl⟩
  have w5 : IntKind.i64.wrap ((r - l) * (t' - b')) = u := by rw [hu]; rw [hu] at m1; exact IntWalk.i64_in _ (by omega)
  have w6 : IntKind.i64.wrap ((t - b) * (r' - l')) = v := by rw [hv]; rw [hv] at m2; exact IntWalk.i64_in _ (by omega)
  rw [hu, hv] at Hr
  rw [hu] at m1
  rw [hv] at m2
  clear hu hv
  have w7 : IntKind.i64.wrap (u - v) = u - v := IntWalk.i64_in _ (by omega)
  clear he hf m1 m2
  by_cases h : 0 < u - v
  · have h' : u - v > 0 := h
    have Hr2 : Hid (res = true) := Lib.hid (Hr.out.trans (decide_eq_true h))
    clear Hr
    go_enter Tryz.func47, Tryz.ntmps47
    go_wp2
    go_ret
    exact ⟨by rw [Hr2.out]; simp; omega, (by repeat' (first | with_reducible exact Below.refl _ _ | with_reducible refine below_drewN ?_ _ | with_reducible refine Below.drew ?_ | with_reducible refine Below.alloc ?_ ?_ _ | with_reducible refine Below.setCell ?_ ?_ _ | with_reducible refine Below.trans ?_ (Below.mono (by with_reducible assumption) ?_) | (simp; done) | (simp; omega) | omega))⟩
  · have Hr2 : Hid (res = false) := Lib.hid (Hr.out.trans (decide_eq_false h))
    clear Hr
    go_enter Tryz.func47, Tryz.ntmps47
    go_wp2
    go_ret
    exact ⟨by rw [Hr2.out]; simp; omega, (by repeat' (first | with_reducible exact Below.refl _ _ | with_reducible refine below_drewN ?_ _ | with_reducible refine Below.drew ?_ | with_reducible refine Below.alloc ?_ ?_ _ | with_reducible refine Below.setCell ?_ ?_ _ | with_reducible refine Below.trans ?_ (Below.mono (by with_reducible assumption) ?_) | (simp; done) | (simp; omega) | omega))⟩
theorem SlR.of_edge {w : World} {base : Nat} {v : Value} {l : List R4} (h : w.ownsRow base 85 4 v l.length (rCells l)) : ∃ A c, v = .slice A l.length c ∧ SlR w A l.length c l := by
  obtain ⟨A, c, rfl, h1, h2, h3⟩ := own_slice h
  exact ⟨A, c, rfl, rfl, h2, h3, h1⟩
theorem ge_cell {w : World} {A : Option Addr} {n c : Nat} {r : List R4} (h : SlR w A n c r) (k : Nat) (hk : k < n) : ∃ b off, A = some ⟨b, off, none⟩ ∧ b < w.heap.size ∧ w.cell? ⟨b, off + k * 4, none⟩ = some (.int .i64 (ge r k).l) ∧ w.cell? ⟨b, off + k * 4 + 1, none⟩ = some (.int .i64 (ge r k).b) ∧ w.cell? ⟨b, off + k * 4 + 2, none⟩ = some (.int .i64 (ge r k).r) ∧ w.cell? ⟨b, off + k * 4 + 3, none⟩ = some (.int .i64 (ge r k).t) := by
  have hl : k < r.length := by rw [h.len]; exact hk
  rw [ge_at hl]
  exact h.at k hl
theorem rem_prev (k n : Nat) (hk : k < n) : (((k : Int) + (n : Int) - 1).tmod (n : Int)) = (((k + n - 1) % n : Nat) : Int) := by
  rw [show (k : Int) + (n : Int) - 1 = ((k + n - 1 : Nat) : Int) by omega]
  exact (Int.ofNat_tmod _ _).symm
theorem pCells_snoc (l : List Pt) (p : Pt) : pCells (l ++ [p]) = pCells l ++ [.int .i64 p.1, .int .i64 p.2] := by simp [pCells, encPt]
set_option maxHeartbeats 4000000 in
set_option maxRecDepth 100000 in
theorem corners5_any (A : Option Addr) (n c : Nat) (r : List R4) (w : World) (hA : SlR w A n c r) (hn : n ≤ 1000000) (h0 : 0 < (cornL r n).length) :
    Calls Tryz.prog 48 #[.slice A n c] w (PtPost w (begunP (cornL r n))) := by
  obtain ⟨i0, hi, hz0, hz1, hz2⟩ := info_parts Tryz.infoPoint
  have hlen := hA.len
  have Hlen := Lib.hid hlen
  have HA := Lib.hid hA
  have H0 := Lib.hid h0
  have HLe := Lib.hid (fun e W => level5_any e W)
  clear hA h0 hlen
  go_enter Tryz.func48, Tryz.ntmps48
  go_upto_region 3 with fail
  go_loopw [3, 9] (fun pv iv wr => ∃ k : Nat, k ≤ n ∧ iv = .int .i64 (k : Int) ∧ wr.ownsRow w.heap.size 43 2 pv (cornL r k).length (pCells (cornL r k)) ∧ Below w.heap.size w wr) (fun _ iv _ => n - (intOf iv).toNat)
  case atStart => exact ⟨0, Nat.zero_le _, rfl, World.ownsRow_nil _ _ _ _, Below.refl _ _⟩
  case round =>
    obtain ⟨k, hk, rfl, hown, hbw⟩ := hrel
    have Hown := Lib.hid hown
    have Hbw := Lib.hid hbw
    have hsw := hbw.size
    clear hown hbw
    by_cases hkn : k < n
    · have hkn' : (k : Int) < (n : Int) := by omega
      have hn0 : 0 < n := by omega
      obtain ⟨x, hx⟩ : ∃ x, (k + n - 1) % n = x := ⟨_, rfl⟩
      have hxn : x < n := by rw [← hx]; exact Nat.mod_lt _ hn0
      have hrem := rem_prev k n hkn
      rw [hx] at hrem
      obtain ⟨b, off, e1, hb, p0, p1, p2, p3⟩ := ge_cell (HA.out.below Hbw.out) k hkn
      obtain ⟨_, _, e2, -, q0, q1, q2, q3⟩ := ge_cell (HA.out.below Hbw.out) x hxn
      subst e1
      injection e2 with e2
      injection e2 with e2 e2'
      subst e2 e2'
      have Hst := Lib.hid (cornL_succ r k)
      have hcl := cornL_len r k
      have Hcor : Hid (corAt r k = if levE (ge r k) != levE (ge r x) then [frOf (ge r k)] else []) := Lib.hid (by
        unfold corAt
        rw [Hlen.out, hx])
      have hxn' : (x : Int) < (n : Int) := by omega
      have hnz : ¬ (n : Int) = 0 := by omega
      have hnz' : ¬ n = 0 := by omega
      have hx0 : (0 : Int) ≤ (x : Int) := by omega
      have hk0 : (0 : Int) ≤ (k : Int) := by omega
      have hw1 : IntKind.i64.wrap ((k : Int) + (n : Int)) = (k : Int) + (n : Int) := IntWalk.i64_in _ (by omega)
      have hw2 : IntKind.i64.wrap ((k : Int) + (n : Int) - 1) = (k : Int) + (n : Int) - 1 := IntWalk.i64_in _ (by omega)
      have hwx : IntKind.i64.wrap (x : Int) = (x : Int) := IntWalk.i64_in _ (by omega)
      have hwr : IntKind.i64.wrap (((k : Int) + (n : Int) - 1).tmod (n : Int)) = (x : Int) := by rw [hrem]; exact hwx
      have hbr : b < wr.heap.size := by omega
      have HL1 := Lib.hid (fun W => HLe.out (ge r k) W)
      have HL2 := Lib.hid (fun W => HLe.out (ge r x) W)
      generalize ge r k = q at *
      generalize ge r x = q' at *
      obtain ⟨l, bb, rr, t⟩ := q
      obtain ⟨l', bb', rr', t'⟩ := q'
      dsimp only at *
      obtain ⟨u, hu⟩ : ∃ u, levE ⟨l, bb, rr, t⟩ = u := ⟨_, rfl⟩
      obtain ⟨v, hv⟩ : ∃ v, levE ⟨l', bb', rr', t'⟩ = v := ⟨_, rfl⟩
      rw [hu] at HL1 Hcor
      rw [hv] at HL2 Hcor
      clear hu hv hx
      go_upto_region 5 with fail
      refine wp_region_below (W := wr) wr.heap.size (Nat.le_refl _) (by kernel_rfl) (by kernel_rfl) ?_
      intro I _ F hFc hFb hFs
      repeat (go_big_quiet_step (first
        | (go_at_call_of 83 (Value.agg #[.int .i64 l, .int .i64 bb, .int .i64 rr, .int .i64 t]); with_reducible exact class_call hFb hFs (Nat.le_refl _) (HL1.out _))
        | (go_at_call_of 83 (Value.agg #[.int .i64 l', .int .i64 bb', .int .i64 rr', .int .i64 t']); with_reducible exact class_call hFb hFs (Nat.le_refl _) (HL2.out _))))
      refine wpQuiet_nil ?_
      rintro _ ⟨iq, rfl⟩
      have Hfq : Hid (Below wr.heap.size wr (F iq)) := Lib.hid (hFb iq)
      generalize F iq = wq at *
      clear hFc hFb hFs
      have hsq := Hfq.out.size
      have p0q := (Hfq.out.cell (p := ⟨b, off + k * 4, none⟩) hbr).trans p0
      have p1q := (Hfq.out.cell (p := ⟨b, off + k * 4 + 1, none⟩) hbr).trans p1
      have Hbq : Hid (Below w.heap.size w wq) := Lib.hid (Hbw.out.trans (Hfq.out.mono hsw))
      have Howq := Lib.hid (ownsRow_below Hown.out Hfq.out)
      clear p0 p1 p2 p3 q0 q1 q2 q3
      cases u <;> cases v
      · have Hc2 : Hid (cornL r (k + 1) = cornL r k) := Lib.hid (by rw [Hst.out, Hcor.out, if_neg (by decide)]; simp)
        clear Hst Hcor
        generalize cornL r k = c1 at *
        go_wp2
        go_roundw
        case rel => exact ⟨k + 1, by omega, by go_num, by rw [Hc2.out]; exact Howq.out, Hbq.out⟩
        case measure => simp [intOf]; omega
      · have Hc2 : Hid (cornL r (k + 1) = cornL r k ++ [(l, bb)]) := Lib.hid (by rw [Hst.out, Hcor.out, if_pos (by decide)])
        clear Hst Hcor
        generalize cornL r k = c1 at *
        go_wp2_with (first
          | (at_builtin
             go_loud (refine wpList_append_any _ rfl (.tmp 30) (.tmp 36) _ rfl w.heap.size 43 i0 _ 2 16 Tryz.underlying40 hi hz0 hz1 hz2 rfl (by omega) _ c1.length (pCells c1) rfl (Howq.out.alloc _) (wq.heap.size + 1) _ 1 1 [.int .i64 l, .int .i64 bb] rfl ⟨rfl, fun _ => ⟨_, rfl, Nat.lt_succ_self _, fun j u hu => (by exact World.news_of_block (heap_alloc_new wq (.cells #[.int .i64 l, .int .i64 bb] 43)) j u hu)⟩⟩ (by simp [Value.oneCell']) (by simp only [maxLen]; omega) (by omega) (by rw [World.size_alloc]; omega) ?_)
             intro v5 w5 hown5 hg5 hat5)
          | fail)
        go_roundw
        case rel =>
          refine ⟨k + 1, by omega, by go_num, ?_, ?_⟩
          · rw [Hc2.out, pCells_snoc, List.length_append]
            exact hown5
          · exact Below.grown (Hbq.out.alloc (by omega) _) hg5 (by rw [World.size_alloc]; omega) (own_base Howq.out)
        case measure => simp [intOf]; omega
      · have Hc2 : Hid (cornL r (k + 1) = cornL r k ++ [(l, bb)]) := Lib.hid (by rw [Hst.out, Hcor.out, if_pos (by decide)])
        clear Hst Hcor
        generalize cornL r k = c1 at *
        go_wp2_with (first
          | (at_builtin
             go_loud (refine wpList_append_any _ rfl (.tmp 30) (.tmp 36) _ rfl w.heap.size 43 i0 _ 2 16 Tryz.underlying40 hi hz0 hz1 hz2 rfl (by omega) _ c1.length (pCells c1) rfl (Howq.out.alloc _) (wq.heap.size + 1) _ 1 1 [.int .i64 l, .int .i64 bb] rfl ⟨rfl, fun _ => ⟨_, rfl, Nat.lt_succ_self _, fun j u hu => (by exact World.news_of_block (heap_alloc_new wq (.cells #[.int .i64 l, .int .i64 bb] 43)) j u hu)⟩⟩ (by simp [Value.oneCell']) (by simp only [maxLen]; omega) (by omega) (by rw [World.size_alloc]; omega) ?_)
             intro v5 w5 hown5 hg5 hat5)
          | fail)
        go_roundw
        case rel =>
          refine ⟨k + 1, by omega, by go_num, ?_, ?_⟩
          · rw [Hc2.out, pCells_snoc, List.length_append]
            exact hown5
          · exact Below.grown (Hbq.out.alloc (by omega) _) hg5 (by rw [World.size_alloc]; omega) (own_base Howq.out)
        case measure => simp [intOf]; omega
      · have Hc2 : Hid (cornL r (k + 1) = cornL r k) := Lib.hid (by rw [Hst.out, Hcor.out, if_neg (by decide)]; simp)
        clear Hst Hcor
        generalize cornL r k = c1 at *
        go_wp2
        go_roundw
        case rel => exact ⟨k + 1, by omega, by go_num, by rw [Hc2.out]; exact Howq.out, Hbq.out⟩
        case measure => simp [intOf]; omega
    · obtain rfl : k = n := by omega
      have hkn' : ¬ (k : Int) < (k : Int) := by omega
      have hcl := cornL_len r k
      generalize cornL r k = P at *
      obtain ⟨m, hm⟩ : ∃ m, P.length = m := ⟨_, rfl⟩
      have Hm := Lib.hid hm
      rw [hm] at Hown hcl H0
      have hm0 : 0 < m := H0.out
      obtain ⟨g, cap, rfl, hgb, hgl, hgc, hgm, hgv, -⟩ := own_at Hown.out hm0
      have HP : Hid (SlPt wr (some ⟨g, 0, none⟩) m cap P) := Lib.hid ⟨hm, hgc, hgm, .inr ⟨g, 0, rfl, hgl, fun j u hu => by rw [Nat.zero_add]; exact hgv j u hu⟩⟩
      have Hlt := Lib.hid (fun j (hj : j ≤ P.length) => begTo_lt (by omega) j hj)
      have Hst := Lib.hid (fun (j : Nat) (hj : j < P.length) => begTo_step hj (Hlt.out j (by omega)))
      have Hres : Hid (begunP P = P.drop (begTo P P.length) ++ P.take (begTo P P.length)) := Lib.hid rfl
      have HBe := Lib.hid (fun p q W => before5_any p q W)
      generalize begunP P = res at *
      obtain ⟨wo, hwo⟩ : ∃ wo : World, wo = wr := ⟨_, rfl⟩
      rw [← hwo] at Hown Hbw HP hgl hsw ⊢
      clear hm hgv hwo HLe
      go_upto_region 10 with fail
      go_loopw [5, 41] (fun av iv wr => ∃ j : Nat, j ≤ m ∧ iv = .int .i64 (j : Int) ∧ av = .int .i64 ((begTo P j : Nat) : Int) ∧ Below wo.heap.size wo wr) (fun _ iv _ => m - (intOf iv).toNat)
      case atStart => exact ⟨0, Nat.zero_le _, rfl, rfl, Below.refl _ _⟩
      case round =>
        obtain ⟨j, hj, rfl, rfl, hbj⟩ := hrel
        have Hbj := Lib.hid hbj
        have hsj := hbj.size
        clear hbj
        by_cases hjm : j < m
        · have hjm' : (j : Int) < (m : Int) := by omega
          have hjl : j < P.length := by have := Hm.out; omega
          have hal := Hlt.out j (by omega)
          have Hs := Lib.hid (Hst.out j hjl)
          obtain ⟨_, _, e1, -, p0, p1⟩ := (HP.out.below Hbj.out).at j hjl
          obtain ⟨_, _, e2, -, q0, q1⟩ := (HP.out.below Hbj.out).at _ hal
          injection e1 with e1
          injection e1 with e1 e1'
          injection e2 with e2
          injection e2 with e2 e2'
          subst e1 e1' e2 e2'
          obtain ⟨a, ha⟩ : ∃ a, begTo P j = a := ⟨_, rfl⟩
          obtain ⟨p, hp⟩ : ∃ p, P[j] = p := ⟨_, rfl⟩
          obtain ⟨q, hq⟩ : ∃ q, P[begTo P j] = q := ⟨_, rfl⟩
          rw [hp] at p0 p1 Hs
          rw [hq] at q0 q1 Hs
          rw [ha] at q0 q1 hal Hs ⊢
          obtain ⟨a2, ha2⟩ : ∃ a, begTo P (j + 1) = a := ⟨_, rfl⟩
          have Ha2 := Lib.hid ha2
          rw [ha2] at Hs
          clear hp hq ha ha2
          have hal' : (a : Int) < (m : Int) := by have := Hm.out; omega
          have hbr : g < wr.heap.size := by omega
          rw [Nat.zero_add] at p0 q0 p1 q1
          have HLo := Lib.hid (fun W => HBe.out p q W)
          obtain ⟨px, py⟩ := p
          obtain ⟨qx, qy⟩ := q
          unfold befP at HLo
          dsimp only at *
          generalize lowP (px, py) (qx, qy) = lo at *
          have hj0 : (0 : Int) ≤ (j : Int) := by omega
          have ha0 : (0 : Int) ≤ (a : Int) := by omega
          obtain ⟨res2, hres2⟩ : ∃ x, decide (lo < 0) = x := ⟨_, rfl⟩
          rw [hres2] at HLo
          have HR2 := Lib.hid hres2
          clear hres2
          go_upto_region 12 with fail
          refine wp_region_below (W := wr) wr.heap.size (Nat.le_refl _) (by kernel_rfl) (by kernel_rfl) ?_
          intro I _ F hFc hFb hFs
          repeat (go_big_quiet_step ((go_at_call 49; with_reducible exact class_call hFb hFs (Nat.le_refl _) (HLo.out _))))
          refine wpQuiet_nil ?_
          rintro _ ⟨iq, rfl⟩
          have Hfq : Hid (Below wo.heap.size wo (F iq)) := Lib.hid (Hbj.out.trans ((hFb iq).mono hsj))
          generalize F iq = wq at *
          clear hFc hFb hFs p0 p1 q0 q1
          cases res2 with
          | true =>
            have Hs2 : Hid (a2 = j) := Lib.hid (by rw [Hs.out, if_pos (of_decide_eq_true HR2.out)])
            go_wp2
            go_roundw
            case rel => exact ⟨j + 1, by omega, by go_num, by rw [Ha2.out, Hs2.out], Hfq.out⟩
            case measure => simp [intOf]; omega
          | false =>
            have Hs2 : Hid (a2 = a) := Lib.hid (by rw [Hs.out, if_neg (of_decide_eq_false HR2.out)])
            go_wp2
            go_roundw
            case rel => exact ⟨j + 1, by omega, by go_num, by rw [Ha2.out, Hs2.out], Hfq.out⟩
            case measure => simp [intOf]; omega
        · obtain rfl : j = m := by omega
          have hjm' : ¬ (j : Int) < (j : Int) := by omega
          have hal := Hlt.out j (by have := Hm.out; omega)
          rw [Hm.out] at Hres hal
          obtain ⟨a, ha⟩ : ∃ a, begTo P j = a := ⟨_, rfl⟩
          rw [ha] at Hres hal ⊢
          clear ha
          have haj : (a : Int) ≤ (j : Int) := by omega
          have hac : (a : Int) ≤ (cap : Int) := by omega
          have haj2 : a ≤ j := by omega
          have hac2 : a ≤ cap := by omega
          have ha0 : ¬ (a : Int) < 0 := by omega
          have hca : ¬ cap = a := by omega
          have HPr := Lib.hid (HP.out.below Hbj.out)
          have HD : Hid (SlPt wr (some ⟨g, a * 2, none⟩) (j - a) (cap - a) (P.drop a)) := Lib.hid (by have := HPr.out.drop haj2; rwa [Nat.zero_add] at this)
          have HT := Lib.hid (HPr.out.take haj2)
          have hjb : j ≤ 1000000 := by omega
          go_upto_region 15 with fail
          go_region_held3 (fun w' => True) (first | trivial)
            (first
              | (refine step_append_any _ rfl (.tmp 55) (.tmp 58) 40 rfl wr.heap.size 43 i0 _ 2 16 Tryz.underlying40 hi hz0 hz1 hz2 rfl (by omega) (.slice (some _) 0 0) 0 [] rfl ?_ _ (some ⟨g, a * 2, none⟩) (j - a) (cap - a) (pCells (P.drop a)) rfl (SlPt.reads (HD.out.below (by repeat' (first | with_reducible exact Below.refl _ _ | with_reducible refine below_drewN ?_ _ | with_reducible refine Below.drew ?_ | with_reducible refine Below.alloc ?_ ?_ _ | with_reducible refine Below.setCell ?_ ?_ _ | with_reducible refine Below.trans ?_ (Below.mono (by with_reducible assumption) ?_) | (simp; done) | (simp; omega) | omega)))) (pCells_one _) (by unfold maxLen; omega) (by omega) (by first | (simp; done) | (simp; omega)) ?_
                 · with_reducible exact (own_zero wr _ _ _ (Nat.le_refl _)).drew
                 intro v1 w1 hown1 hg1 hat1
                 simp only [Nat.zero_add, List.nil_append] at hown1
                 have Hg1 : Hid (Below wr.heap.size wr w1) := Lib.hid (Below.grown (by repeat' (first | with_reducible exact Below.refl _ _ | with_reducible refine below_drewN ?_ _ | with_reducible refine Below.drew ?_ | with_reducible refine Below.alloc ?_ ?_ _ | with_reducible refine Below.setCell ?_ ?_ _ | with_reducible refine Below.trans ?_ (Below.mono (by with_reducible assumption) ?_) | (simp; done) | (simp; omega) | omega)) hg1 (by first | (simp; done) | (simp; omega)) (by intro k hk; simp [Value.ownBlock] at hk; omega))
                 have Hown1 := Lib.hid hown1
                 have hs1 := Hg1.out.size
                 clear hown1 hg1 hat1)
              | (refine step_append_any _ rfl (.tmp 59) (.tmp 62) 40 rfl wr.heap.size 43 i0 _ 2 16 Tryz.underlying40 hi hz0 hz1 hz2 rfl (by omega) v1 (j - a) (pCells (P.drop a)) rfl Hown1.out _ (some ⟨g, 0, none⟩) a cap (pCells (P.take a)) rfl (SlPt.reads (HT.out.below Hg1.out)) (pCells_one _) (by unfold maxLen; omega) (by omega) hs1 ?_
                 intro v2 w2 hown2 hg2 hat2
                 have Hown2 := Lib.hid hown2
                 have Hg2 : Hid (Below wr.heap.size wr w2) := Lib.hid (Hg1.out.grown hg2 hs1 (own_base Hown1.out))
                 clear hown2 hg2 hat2))
          all_goals go_wp2
          all_goals go_ret
          all_goals
            refine ⟨_, rfl, ?_, (Hbw.out.trans (Hbj.out.mono hsw)).trans (Hg2.out.mono (by omega))⟩
            have h5 := Hown2.out
            rw [Hres.out, pCells_app, List.length_append, List.length_drop, List.length_take, Hm.out]
            rw [show min a j = a by omega]
            exact own_rebase h5 (by omega)
end Go.Proofs.YtpcfhcdbibklcaaGreat
namespace Go.Proofs.YtpcfhcdbibklcaaGreat
open Go.RowKit Go.Shelf
set_option linter.unusedVariables false
set_option linter.unusedSimpArgs false

theorem q_eql (w : World) (a b a' b' : Int) : (binOp .eql 43 (.agg #[.int .i64 a, .int .i64 b]) (.agg #[.int .i64 a', .int .i64 b'])).run Tryz.prog w = .ok (.bool (a == a' && b == b')) w := by
  rw [run_eql_struct, qEqualIn w 9998]
  rfl
theorem Tryz.infoBool5 : (Tryz.prog.info? 4).map (fun i => (i.zero, i.size, i.bytes)) = some (some (.bool false), 1, 1) := by kernel_rfl
theorem Tryz.infoRing5 : (Tryz.prog.info? 40).map (fun i => (i.zero, i.size, i.bytes)) = some (some (.slice none 0 0), 1, 24) := by kernel_rfl
/-- The row of marks. -/
def Usd (W : World) (B U N : Nat) (us : List Bool) : Prop := W.ownsRow B 4 1 (.slice (some ⟨U, 0, none⟩) N N) N (us.map Value.bool)
theorem madeCells_listB (z : Value) (n : Nat) : (madeCells #[z] n).toList = List.replicate n z := by
  refine List.ext_getElem (by simp [madeCells]) (fun i h1 h2 => ?_)
  simp [madeCells, Nat.mod_one]
theorem Usd.start (w : World) (N : Nat) (hn : N ≤ maxLen) : Usd (w.alloc (.cells (madeCells #[.bool false] N) 4)) w.heap.size w.heap.size N (List.replicate N false) := by
  unfold Usd
  rw [List.map_replicate]
  exact ⟨by simp, .inr ⟨w.heap.size, N, madeCells #[.bool false] N, rfl, Nat.le_refl _, heap_alloc_new w _, Nat.le_refl _, hn, by simp [size_madeCells], by rw [madeCells_listB]; simp⟩⟩
theorem Usd.cell {W : World} {B U N : Nat} {us : List Bool} (h : Usd W B U N us) (k : Nat) (hk : k < N) (hl : us.length = N) : W.cell? ⟨U, k, none⟩ = some (.bool (us.getD k true)) ∧ W.frozen? ⟨U, k, none⟩ = false ∧ U < W.heap.size ∧ B ≤ U := by
  obtain ⟨g, cap, e, hb, hg, _, _, hc, hf⟩ := own_at h (by omega)
  injection e with e1 _ _
  injection e1 with e1
  injection e1 with e1
  subst e1
  refine ⟨?_, hf k, hg, hb⟩
  refine hc k _ ?_
  rw [List.getElem?_map, List.getElem?_eq_getElem (by omega), List.getD_eq_getElem?_getD, List.getElem?_eq_getElem (by omega)]
  rfl
theorem Usd.set {W : World} {B U N : Nat} {us : List Bool} (h : Usd W B U N us) (k : Nat) : Usd (W.setCell ⟨U, k, none⟩ (.bool true)) B U N (us.set k true) := by
  unfold Usd
  rw [List.map_set]
  exact own_setN h k _
theorem Usd.below {W W' : World} {B U N : Nat} {us : List Bool} (h : Usd W B U N us) (hb : Below W.heap.size W W') : Usd W' B U N us := ownsRow_below h hb
/-- A row stays where a row of another type grows. -/
theorem own_grownT {w w' : World} {base base' : Nat} {e e' : TypeId} {size size' n n' : Nat} {v v' : Value} {xs xs' : List Value} (h : w.ownsRow base e size v n xs) (h' : w.ownsRow base' e' size' v' n' xs') (hne : e ≠ e') (hg : w.grownBy w' v'.ownBlock) : w'.ownsRow base e size v n xs :=
  own_grown h hg (fun g hgs e1 => by
    obtain ⟨cs, i, h1⟩ := own_type h g hgs
    obtain ⟨cs', i', h2⟩ := own_type h' g e1
    rw [h1] at h2
    injection h2 with h2
    injection h2 with _ h2
    exact hne h2)
theorem own_setT5 {w : World} {base base' : Nat} {e e' : TypeId} {size size' n n' G c' : Nat} {v : Value} {xs xs' : List Value} (h : w.ownsRow base e size v n xs) (h' : w.ownsRow base' e' size' (.slice (some ⟨G, 0, none⟩) n' c') n' xs') (hne : e ≠ e') (o : Nat) (u : Value) : (w.setCell ⟨G, o, none⟩ u).ownsRow base e size v n xs :=
  own_grownT h h' hne (only_setCell (World.grownBy.refl _ _) (.inl rfl) u)
theorem RgAt.grownT {w w' : World} {B base' : Nat} {cv : Value} {rs : List (Value × List Pt)} {e' : TypeId} {size' n' : Nat} {v' : Value} {xs' : List Value} (h : RgAt w B cv rs) (h' : w.ownsRow base' e' size' v' n' xs') (h1 : 40 ≠ e') (h2 : 43 ≠ e') (hg : w.grownBy w' v'.ownBlock) : RgAt w' B cv rs :=
  ⟨own_grownT h.row h' h1 hg, fun x hx => own_grownT (h.pts x hx) h' h2 hg⟩
theorem RgAt.setT {w : World} {B base' : Nat} {cv : Value} {rs : List (Value × List Pt)} {e' : TypeId} {size' n' G c' : Nat} {xs' : List Value} (h : RgAt w B cv rs) (h' : w.ownsRow base' e' size' (.slice (some ⟨G, 0, none⟩) n' c') n' xs') (h1 : 40 ≠ e') (h2 : 43 ≠ e') (o : Nat) (u : Value) : RgAt (w.setCell ⟨G, o, none⟩ u) B cv rs :=
  ⟨own_setT5 h.row h' h1 o u, fun x hx => own_setT5 (h.pts x hx) h' h2 o u⟩
/-- What the reference's Rings returns. -/
structure RgRes5 (l : List R4) (rs : List (List Pt)) (err : Int) : Prop where
  bad : validP l = false → rs = [] ∧ err = 7
  good : validP l = true → ∃ cs, Rings (inL l) (edgesR l) cs ∧ ((bigR cs ∧ rs = [] ∧ err = 1) ∨ (¬ bigR cs ∧ err = 0 ∧ rs.Perm (cs.map ringOf) ∧ rs.Pairwise fun a b => befR b a = false))
def RgPost5 (w : World) (l : List R4) (e : Ending) (w' : World) : Prop := ∃ v rs err, e = .returned (.tuple #[v, .int .i64 err]) ∧ RgAt w' w.heap.size v rs ∧ Below w.heap.size w w' ∧ RgRes5 l (rs.map (·.2)) err
theorem rgRes_same {l : List R4} {rs rs' : List (List Pt)} {err err' : Int} (h : RgRes l rs err) (h' : RgRes5 l rs' err') : rs = rs' ∧ err = err' := by
  cases hv : validP l with
  | false =>
    obtain ⟨a, b⟩ := h.bad hv
    obtain ⟨a', b'⟩ := h'.bad hv
    exact ⟨a.trans a'.symm, b.trans b'.symm⟩
  | true =>
    obtain ⟨hl120, hok, _⟩ := valid_parts hv
    have hin := ok_in hok
    have s1 := edges_set l (ins_pos hin)
    have s2 := edgesR_set (n := 16384) hin
    obtain ⟨cs, hr, h1⟩ := h.good hv
    obtain ⟨cs', hr', h2⟩ := h'.good hv
    have hp := rings_perm2 s1 s2 hr hr'
    have hbig := bigR_perm hp
    rcases h1 with ⟨b1, e1, e2⟩ | ⟨b1, e1, p1, o1⟩ <;> rcases h2 with ⟨b2, f1, f2⟩ | ⟨b2, f1, p2, o2⟩
    · exact ⟨e1.trans f1.symm, e2.trans f2.symm⟩
    · exact absurd (hbig.1 b1) b2
    · exact absurd (hbig.2 b2) b1
    · exact ⟨sorted_uniq (p1.trans (hp.trans p2.symm)) (rings_strict s1 hr p1 o1) (rings_strict s2 hr' p2 o2), e1.trans f1.symm⟩
def nxV : Option Nat → Value
  | none => .int .i64 (-1)
  | some m => .int .i64 (m : Int)
def slLen : Value → Nat
  | .slice _ n _ => n
  | _ => 0
theorem own_slLen {w : World} {base : Nat} {e : TypeId} {size n : Nat} {v : Value} {xs : List Value} (h : w.ownsRow base e size v n xs) : slLen v = n := by
  obtain ⟨A, c, rfl, _⟩ := own_slice h
  rfl
theorem rCells_snoc5 (l : List R4) (q : R4) : rCells (l ++ [q]) = rCells l ++ [.int .i64 q.l, .int .i64 q.b, .int .i64 q.r, .int .i64 q.t] := by simp [rCells, R4.cells]
/-- Where the first corner of a ring lies. -/
theorem head_at {W : World} {B : Nat} {v : Value} {r : List Pt} (h : W.ownsRow B 43 2 v r.length (pCells r)) (hne : r ≠ []) : ∃ b c, v = .slice (some ⟨b, 0, none⟩) r.length c ∧ B ≤ b ∧ b < W.heap.size ∧ W.cell? ⟨b, 0, none⟩ = some (.int .i64 (hdP r).1) ∧ W.cell? ⟨b, 1, none⟩ = some (.int .i64 (hdP r).2) ∧ 0 < r.length := by
  obtain ⟨g, cap, rfl, hb, hg, _, _, hc, _⟩ := own_at h (List.length_pos_iff.2 hne)
  cases r with
  | nil => exact absurd rfl hne
  | cons p t => exact ⟨g, cap, rfl, hb, hg, hc 0 _ (by simp [pCells, encPt, hdP]), hc 1 _ (by simp [pCells, encPt, hdP]), by simp⟩
set_option maxHeartbeats 4000000 in
set_option maxRecDepth 100000 in
theorem rings5_bad (A : Option Addr) (n c : Nat) (l : List R4) (w : World) (hA : SlR w A n c l) (hv : validP l = false) :
    Calls Tryz.prog 17 #[.agg #[.slice A n c]] w (RgPost5 w l) := by
  have HA := Lib.hid hA
  have HV := Lib.hid (fun W (hW : SlR W A n c l) => validR_any A n c l W hW)
  have Hres : Hid (RgRes5 l [] 7) := Lib.hid ⟨fun _ => ⟨rfl, rfl⟩, fun h => by rw [hv] at h; cases h⟩
  rw [hv] at HV
  clear hA hv
  go_enter Tryz.func17, Tryz.ntmps17
  go_wp2_with (first
    | (go_at_call 30
       refine (HV.out _ (HA.out.below (by repeat' (first | with_reducible exact Below.refl _ _ | with_reducible refine below_drewN ?_ _ | with_reducible refine Below.drew ?_ | with_reducible refine Below.alloc ?_ ?_ _ | with_reducible refine Below.setCell ?_ ?_ _ | with_reducible refine Below.trans ?_ (Below.mono (by with_reducible assumption) ?_) | (simp; done) | (simp; omega) | omega)))).mono ?_
       rintro e w1 ⟨rfl, hb1⟩
       have Hb1 : Hid (Below w.heap.size w w1) := Lib.hid (by have hbq := hb1; exact (by repeat' (first | with_reducible exact Below.refl _ _ | with_reducible assumption | with_reducible refine below_drewN ?_ _ | with_reducible refine Below.drew ?_ | with_reducible refine Below.alloc ?_ ?_ _ | with_reducible refine Below.setCell ?_ ?_ _ | with_reducible refine Below.trans ?_ (Below.mono (by with_reducible assumption) ?_) | with_reducible refine below_only ?_ (by with_reducible assumption) ?_ ?_ | (simp; done) | (simp; omega) | omega)))
       clear hb1)
    | fail)
  refine bodyPost_ret (v := .tuple #[.slice none 0 0, .int .i64 7]) (by simp [results, Tryz.results17, go_sem, *]) rfl ?_
  exact ⟨_, [], 7, rfl, RgAt.nil _ _, Hb1.out, Hres.out⟩

set_option maxHeartbeats 8000000 in
set_option maxRecDepth 100000 in
theorem rings5_good (A : Option Addr) (n c : Nat) (l : List R4) (w : World) (hA : SlR w A n c l) (hv : validP l = true) :
    Calls Tryz.prog 17 #[.agg #[.slice A n c]] w (RgPost5 w l) := by
  obtain ⟨i0, hi, hz0, hz1, hz2⟩ := info_parts Tryz.infoEdge5
  obtain ⟨i1, hj, hy0, hy1, hy2⟩ := info_parts Tryz.infoRing5
  have HA := Lib.hid hA
  have HV := Lib.hid (fun W (hW : SlR W A n c l) => validR_any A n c l W hW)
  rw [hv] at HV
  obtain ⟨hl120, hok, _⟩ := valid_parts hv
  have hnl := hA.len
  have HE := Lib.hid (fun W (hW : SlR W A n c l) => edges5_any A n c l W hW (by omega))
  have Hset := Lib.hid (edgesR_set (n := 16384) (ok_in hok))
  have Hei : Hid (∀ e ∈ edgesR l, inB4 16384 e) := Lib.hid (edgesR_in l 16384 (ok_in hok))
  have hel := edgesR_len l hl120
  have Hres : Hid (∀ rs err cs, Rings (inL l) (edgesR l) cs → ((bigR cs ∧ rs = [] ∧ err = 1) ∨ (¬ bigR cs ∧ err = 0 ∧ rs.Perm (cs.map ringOf) ∧ rs.Pairwise fun a b => befR b a = false)) → RgRes5 l rs err) := Lib.hid fun rs err cs h1 h2 => ⟨fun h => (by rw [hv] at h; cases h), fun _ => ⟨cs, h1, h2⟩⟩
  generalize hes : edgesR l = es at *
  generalize hP : inL l = P at *
  obtain ⟨N, hN⟩ : ∃ N, es.length = N := ⟨_, rfl⟩
  have HN := Lib.hid hN
  have HLe := Lib.hid (fun (i j : Nat) (hi : i < es.length) (hj : j < es.length) W => left5_any (ge es i) (ge es j) (Hei.out _ (ge_mem hi)) (Hei.out _ (ge_mem hj)) W)
  have hNb : N ≤ 230400 := by omega
  clear hA hv hok hes hP hN hel hl120 hnl Hei
  go_enter Tryz.func17, Tryz.ntmps17
  go_upto_region 3 with (first
    | (go_at_call 30
       refine (HV.out _ (HA.out.below (by repeat' (first | with_reducible exact Below.refl _ _ | with_reducible refine below_drewN ?_ _ | with_reducible refine Below.drew ?_ | with_reducible refine Below.alloc ?_ ?_ _ | with_reducible refine Below.setCell ?_ ?_ _ | with_reducible refine Below.trans ?_ (Below.mono (by with_reducible assumption) ?_) | (simp; done) | (simp; omega) | omega)))).mono ?_
       rintro e w1 ⟨rfl, hb1⟩
       have Hb1 : Hid (Below w.heap.size w w1) := Lib.hid (by have hbq := hb1; exact (by repeat' (first | with_reducible exact Below.refl _ _ | with_reducible assumption | with_reducible refine below_drewN ?_ _ | with_reducible refine Below.drew ?_ | with_reducible refine Below.alloc ?_ ?_ _ | with_reducible refine Below.setCell ?_ ?_ _ | with_reducible refine Below.trans ?_ (Below.mono (by with_reducible assumption) ?_) | with_reducible refine below_only ?_ (by with_reducible assumption) ?_ ?_ | (simp; done) | (simp; omega) | omega)))
       have hr1 : w1.heap[w.heap.size]? = some (.cells #[.slice A n c] 25 (0, 0)) := (hb1.block _ (by simp)).trans (heap_alloc_new w _)
       have c1 := cell_of_row w1 w.heap.size 0 _ _ _ hr1
       have hs1 := Hb1.out.size
       clear hb1 hr1)
    | fail)
  have HA1 := Lib.hid (HA.out.below Hb1.out)
  go_upto_region 4 with (first
    | (go_at_call 46
       refine (HE.out _ HA1.out).mono ?_
       rintro e w2 ⟨v2, rfl, hown2, hb2⟩
       obtain ⟨E, ec, rfl, hSE⟩ := SlR.of_edge hown2
       rw [HN.out] at hSE ⊢
       have HSE := Lib.hid hSE
       have Hb2 : Hid (Below w.heap.size w w2) := Lib.hid (Hb1.out.trans (hb2.mono hs1))
       clear hown2 hb2 hSE)
    | fail)
  clear HE HV c1 HA1 HA
  have hs2 := Hb2.out.size
  have hmk := fun W : World => run_make_row' (P := Tryz.prog) 83 4 (.bool false) 1 Tryz.underlying83 Tryz.infoBool5 rfl .i64 .i64 N (by omega) (by omega) W
  go_upto_region 5 with fail
  clear hmk
  have HU0 := Lib.hid (Usd.start w2 N (by unfold maxLen; omega))
  obtain ⟨w3, hw3⟩ : ∃ w3 : World, w3 = w2.alloc (.cells (madeCells #[.bool false] N) 4) := ⟨_, rfl⟩
  rw [← hw3] at HU0 ⊢
  have Hb23 : Hid (Below w2.heap.size w2 w3) := Lib.hid (by rw [hw3]; exact (by repeat' (first | with_reducible exact Below.refl _ _ | with_reducible refine below_drewN ?_ _ | with_reducible refine Below.drew ?_ | with_reducible refine Below.alloc ?_ ?_ _ | with_reducible refine Below.setCell ?_ ?_ _ | with_reducible refine Below.trans ?_ (Below.mono (by with_reducible assumption) ?_) | (simp; done) | (simp; omega) | omega)))
  have hs3 : w2.heap.size < w3.heap.size := by rw [hw3]; simp
  clear hw3
  obtain ⟨B, hB⟩ : ∃ B, w2.heap.size = B := ⟨_, rfl⟩
  rw [hB] at HU0 Hb23 hs3 hs2 ⊢
  have HB := Lib.hid hB
  clear hB
  have HR0 : Hid (RgSt P es 0 (List.replicate N false) []) := Lib.hid (by have := RgSt.start P es; rwa [HN.out] at this)
  go_upto_region 6 with fail
  go_upto_region 7 with fail
  go_loopw [6, 26] (fun cv iv wr => ∃ (k : Nat) (us : List Bool) (cs : List (R4 × List R4)) (rs : List (Value × List Pt)), k ≤ N ∧ iv = .int .i64 (k : Int) ∧ Hid (RgSt P es k us cs) ∧ Usd wr B B N us ∧ RgAt wr B cv rs ∧ Hid (rs.map (·.2) = cs.map ringOf) ∧ rs.length ≤ k ∧ Below B w2 wr) (fun _ iv _ => N - (intOf iv).toNat)
  case atStart => exact ⟨0, _, [], [], Nat.zero_le _, rfl, HR0, HU0.out, RgAt.nil _ _, Lib.hid rfl, Nat.zero_le _, Hb23.out⟩
  case round =>
    obtain ⟨k, us, cs, rs, hk, rfl, HRs, hus, hrg, Hrs, hrk, hbr⟩ := hrel
    have Hus := Lib.hid hus
    have Hrg := Lib.hid hrg
    have Hbr := Lib.hid hbr
    have hsr : B ≤ wr.heap.size := by have := hbr.size; have := HB.out; omega
    clear hus hrg hbr HR0
    by_cases hkN : k < N
    · have hkN' : (k : Int) < (N : Int) := by omega
      have hke : k < es.length := by have := HN.out; omega
      have hk0 : (0 : Int) ≤ (k : Int) := by omega
      have hw1 : IntKind.i64.wrap ((k : Int) + 1) = (k : Int) + 1 := IntWalk.i64_in _ (by omega)
      obtain ⟨cu, -, -, -⟩ := Hus.out.cell k hkN (HRs.out.len.trans HN.out)
      cases huk : us.getD k true with
      | true =>
        rw [huk] at cu
        have HSk := Lib.hid (HRs.out.skip huk)
        clear huk
        go_wp2_with fail
        go_roundw
        case rel => exact ⟨k + 1, us, cs, rs, by omega, by go_num, HSk, Hus.out, Hrg.out, Hrs, by omega, Hbr.out⟩
        case measure => simp [intOf]; omega
      | false =>
        rw [huk] at cu
        have HC0 := Lib.hid (HRs.out.first hke huk)
        have Hclo := Lib.hid (HRs.out.clo Hset.out)
        clear huk
        go_upto_region 12 with fail
        clear cu
        go_loopw [8, 9] (fun rv iv wq => ∃ (i : Nat) (us2 : List Bool) (acc : List R4), i < N ∧ iv = .int .i64 (i : Int) ∧ Hid (ChSt P es us k i us2 acc) ∧ Usd wq B B N us2 ∧ wq.ownsRow B 85 4 rv acc.length (rCells acc) ∧ RgAt wq B _ rs ∧ Below B w2 wq) (fun rv _ _ => N - slLen rv)
        case atStart => exact ⟨k, us, [], hkN, rfl, HC0, Hus.out, World.ownsRow_nil _ _ _ _, Hrg.out, Hbr.out⟩
        case round =>
          obtain ⟨i, us2, acc, hiN, rfl, HCh, hus2, hacc, hrg2, hbr2⟩ := hrel
          have Hus2 := Lib.hid hus2
          have Hacc := Lib.hid hacc
          have Hrg2 := Lib.hid hrg2
          have Hbr2 := Lib.hid hbr2
          have hsr2 : B ≤ wr.heap.size := by have := hbr2.size; have := HB.out; omega
          clear hus2 hacc hrg2 hbr2
          have hiN' : (i : Int) < (N : Int) := by omega
          have hi0 : (0 : Int) ≤ (i : Int) := by omega
          have hie : i < es.length := by have := HN.out; omega
          obtain ⟨cu, cf, hUl, -⟩ := Hus2.out.cell i hiN (HCh.out.len.trans HN.out)
          have hab := HCh.out.bound
          rw [HN.out] at hab
          cases hui : us2.getD i true with
          | true =>
            rw [hui] at cu
            obtain ⟨t, hacct, hring⟩ := HCh.out.stop Hset.out hui
            subst hacct
            have Hcr : Hid (begunP (cornL (ge es k :: t) (ge es k :: t).length) = ringOf (ge es k, t)) := Lib.hid (corners_ring Hset.out hring)
            have HRs2 := Lib.hid (HRs.out.take HCh.out hring)
            have Hc0 : Hid (0 < (cornL (ge es k :: t) (ge es k :: t).length).length) := Lib.hid (by
              have h1 := ringOf_ne (c := (ge es k, t)) Hset.out hring
              rw [← Hcr.out] at h1
              rcases Nat.eq_zero_or_pos (cornL (ge es k :: t) (ge es k :: t).length).length with h2 | h2
              · rw [List.length_eq_zero_iff.1 h2] at h1
                exact absurd rfl h1
              · exact h2)
            clear hui hring
            obtain ⟨ac, hac⟩ : ∃ ac, ge es k :: t = ac := ⟨_, rfl⟩
            rw [hac] at Hcr Hc0 Hacc hab
            have Hac := Lib.hid hac
            clear hac
            obtain ⟨RA, rc, rfl, hSR⟩ := SlR.of_edge Hacc.out
            have HSR := Lib.hid hSR
            clear hSR
            obtain ⟨m, hm⟩ : ∃ m, ac.length = m := ⟨_, rfl⟩
            rw [hm] at HSR Hcr Hc0 Hacc hab ⊢
            have HCo := Lib.hid (corners5_any RA m rc ac wr HSR.out (by omega) Hc0.out)
            rw [Hcr.out] at HCo
            obtain ⟨rg, hrgq⟩ : ∃ rg, ringOf (ge es k, t) = rg := ⟨_, rfl⟩
            rw [hrgq] at HCo
            have Hrgq := Lib.hid hrgq
            clear hm hrgq
            go_wp2_with (first
              | (go_at_call 48
                 refine HCo.out.mono ?_
                 rintro e wb ⟨vb, rfl, hownb, hbb⟩
                 obtain ⟨BA, bc, rfl, -, -, -⟩ := own_slice hownb
                 have Hownb := Lib.hid hownb
                 have hsb := hbb.size
                 have Husb := Lib.hid (Hus2.out.below hbb)
                 have Hrgb := Lib.hid (Hrg2.out.below hbb)
                 have Hbb : Hid (Below B w2 wb) := Lib.hid (Hbr2.out.trans (hbb.mono hsr2))
                 clear hownb hbb)
              | (at_builtin
                 go_loud (refine wpList_append_any _ rfl (.tmp 97) (.tmp 100) _ rfl B 40 i1 _ 1 24 Tryz.underlying37 hj hy0 hy1 hy2 rfl (by omega) _ rs.length (rs.map (·.1)) rfl (Hrgb.out.row.alloc _) (wb.heap.size + 1) _ 1 1 [.slice BA rg.length bc] rfl ⟨rfl, fun _ => ⟨_, rfl, Nat.lt_succ_self _, fun j u hu => (by exact World.news_of_block (heap_alloc_new wb (.cells #[.slice BA rg.length bc] 40)) j u hu)⟩⟩ (by simp [Value.oneCell']) (by simp only [maxLen]; omega) (by omega) (by rw [World.size_alloc]; omega) ?_)
                 intro v1 w1 hown1 hg1 hat1
                 have hrowb := Hrgb.out.row.alloc (.cells #[.slice BA rg.length bc] 40)
                 have hob := own_base hrowb
                 have hrga := Hrgb.out.below ((Below.refl wb.heap.size wb).alloc (Nat.le_refl _) (.cells #[.slice BA rg.length bc] 40))
                 have hvb : (wb.alloc (.cells #[.slice BA rg.length bc] 40)).ownsRow B 43 2 (.slice BA rg.length bc) rg.length (pCells rg) := (own_lower Hownb.out (by omega)).alloc _
                 have Hrg1 := Lib.hid (hrga.app hg1 (.slice BA rg.length bc) rg hvb hown1)
                 have Hus1 : Hid (Usd w1 B B N us2) := Lib.hid (own_grownT (Husb.out.below ((Below.refl wb.heap.size wb).alloc (Nat.le_refl _) (.cells #[.slice BA rg.length bc] 40))) hrowb (by decide) hg1)
                 have Hb1' : Hid (Below B w2 w1) := Lib.hid ((Hbb.out.alloc (by omega) _).grown hg1 (by simp; omega) (fun g hg => by have := hob g hg; omega))
                 clear hown1 hg1 hat1 hrowb hob hrga hvb)
              | fail)
            go_roundw
            case rel => exact ⟨k + 1, us2, cs ++ [(ge es k, t)], rs ++ [(.slice BA rg.length bc, rg)], by omega, by go_num, HRs2, Hus1.out, Hrg1.out, Lib.hid (by rw [List.map_append, List.map_append, Hrs.out]; simp [Hrgq.out]), by simp; omega, Hb1'.out⟩
            case measure => simp [intOf]; omega
          | false =>
            rw [hui] at cu
            obtain ⟨j, hje, hnx, hst⟩ := HCh.out.step Hset.out hke Hclo.out hui
            have Hnx := Lib.hid hnx
            have HSt := Lib.hid hst
            have hjN : j < N := by have := HN.out; omega
            clear hui hnx hst hje
            have Hset2 := Lib.hid (Hus2.out.set i)
            have Haccs := Lib.hid (own_setT5 Hacc.out Hus2.out (by decide) i (.bool true))
            have Hrgs := Lib.hid (Hrg2.out.setT Hus2.out (by decide) (by decide) i (.bool true))
            go_upto_region 14 with fail
            obtain ⟨wt, hwt⟩ : ∃ wt : World, wt = wr.setCell ⟨B, i, none⟩ (.bool true) := ⟨_, rfl⟩
            rw [← hwt] at Hset2 Haccs Hrgs ⊢
            have Hbt : Hid (Below B w2 wt) := Lib.hid (by rw [hwt]; exact Hbr2.out.setCell (Nat.le_refl _) _)
            have hst2 : B ≤ wt.heap.size := by rw [hwt]; simpa using hsr2
            have HL2 := Lib.hid (own_slLen Hacc.out)
            clear hwt cu cf hUl Hus2 Hacc Hrg2
            obtain ⟨b, off, rfl, hb, p0, p1, p2, p3⟩ := ge_cell (HSE.out.below (by have := Hbt.out; rw [← HB.out] at this; exact this)) i hiN
            have hal : acc.length ≤ N := hab
            obtain ⟨us3, hus3⟩ : ∃ us3, us2.set i true = us3 := ⟨_, rfl⟩
            rw [hus3] at Hset2 Hnx HSt
            clear hus3
            obtain ⟨el, eb, er, et, hee⟩ : ∃ el eb er et, ge es i = ⟨el, eb, er, et⟩ := ⟨_, _, _, _, rfl⟩
            have Hee := Lib.hid hee
            rw [hee] at p0 p1 p2 p3
            dsimp only at p0 p1 p2 p3
            clear hee
            go_upto_region 15 with (first
              | (at_builtin
                 go_loud (refine wpList_append_any _ rfl (.tmp 42) (.tmp 47) _ rfl B 85 i0 _ 4 32 Tryz.underlying81 hi hz0 hz1 hz2 rfl (by omega) _ acc.length (rCells acc) rfl (Haccs.out.alloc _) (wt.heap.size + 1) _ 1 1 [.int .i64 el, .int .i64 eb, .int .i64 er, .int .i64 et] rfl ⟨rfl, fun _ => ⟨_, rfl, Nat.lt_succ_self _, fun j u hu => (by exact World.news_of_block (heap_alloc_new wt (.cells #[.int .i64 el, .int .i64 eb, .int .i64 er, .int .i64 et] 85)) j u hu)⟩⟩ (by simp [Value.oneCell']) (by simp only [maxLen]; omega) (by omega) (by rw [World.size_alloc]; omega) ?_)
                 intro v1 w5 hown1 hg1 hat1
                 have hrowb := Haccs.out.alloc (.cells #[.int .i64 el, .int .i64 eb, .int .i64 er, .int .i64 et] 85)
                 have hob := own_base hrowb
                 have Hrg5 := Lib.hid ((Hrgs.out.below ((Below.refl wt.heap.size wt).alloc (Nat.le_refl _) (.cells #[.int .i64 el, .int .i64 eb, .int .i64 er, .int .i64 et] 85))).grownT hrowb (by decide) (by decide) hg1)
                 have Hus5 : Hid (Usd w5 B B N us3) := Lib.hid (own_grownT (Hset2.out.below ((Below.refl wt.heap.size wt).alloc (Nat.le_refl _) (.cells #[.int .i64 el, .int .i64 eb, .int .i64 er, .int .i64 et] 85))) hrowb (by decide) hg1)
                 have Hb5 : Hid (Below B w2 w5) := Lib.hid ((Hbt.out.alloc (by omega) _).grown hg1 (by simp; omega) (fun g hg => by have := hob g hg; omega))
                 have Hacc5 : Hid (w5.ownsRow B 85 4 v1 (acc ++ [ge es i]).length (rCells (acc ++ [ge es i]))) := Lib.hid (by rw [rCells_snoc5, List.length_append, Hee.out]; exact hown1)
                 have hs5 : B ≤ w5.heap.size := by have := Hb5.out.size; have := HB.out; omega
                 clear hown1 hg1 hat1 hrowb hob)
              | fail)
            clear p0 p1 p2 p3 hb
            go_upto_region 17 with fail
            go_loopw [10, 51] (fun nv jv wq => ∃ q : Nat, q ≤ N ∧ jv = .int .i64 (q : Int) ∧ nv = nxV (nextU es us3 k i q) ∧ Below w5.heap.size w5 wq) (fun _ jv _ => N - (intOf jv).toNat)
            case atStart => exact ⟨0, Nat.zero_le _, rfl, rfl, Below.refl _ _⟩
            case round =>
              obtain ⟨q, hq, rfl, rfl, hbq⟩ := hrel
              have Hbq := Lib.hid hbq
              have hsq := hbq.size
              clear hbq
              by_cases hqN : q < N
              · have hqN' : (q : Int) < (N : Int) := by omega
                have hqe : q < es.length := by have := HN.out; omega
                have hq0 : (0 : Int) ≤ (q : Int) := by omega
                have hw2 : IntKind.i64.wrap ((q : Int) + 1) = (q : Int) + 1 := IntWalk.i64_in _ (by omega)
                have hbw5 : Below B w2 wr := Hb5.out.trans (Hbq.out.mono hs5)
                have hSEr := HSE.out.below (by have := hbw5; rw [← HB.out] at this; exact this)
                obtain ⟨_, _, e1, hb, p0, p1, p2, p3⟩ := ge_cell hSEr i hiN
                obtain ⟨_, _, e2, -, q0, q1, q2, q3⟩ := ge_cell hSEr q hqN
                injection e1 with e1
                injection e1 with e1 e1'
                injection e2 with e2
                injection e2 with e2 e2'
                subst e1 e1' e2 e2'
                obtain ⟨cu, -, hUl, -⟩ := (Hus5.out.below Hbq.out).cell q hqN (HSt.out.len.trans HN.out)
                have Hcd : Hid (candB es us3 k i q = (decide (frOf (ge es q) = toOf (ge es i)) && (decide (q = k) || !us3.getD q true))) := Lib.hid rfl
                have Hst : Hid (nextU es us3 k i (q + 1) = if candB es us3 k i q && ((nextU es us3 k i q).isNone || leftI (ge es i) (ge es q)) then some q else nextU es us3 k i q) := Lib.hid rfl
                have HLq := Lib.hid (HLe.out i q hie hqe)
                have Hnb : Hid (∀ z, nextU es us3 k i q = some z → z < q) := Lib.hid fun z hz => (nextU_cand es us3 k i q z hz).1
                generalize candB es us3 k i q = cd at *
                generalize nextU es us3 k i q = nx at *
                rw [Hee.out] at HLq Hcd Hst p0 p1 p2 p3
                generalize ge es q = eq at *
                obtain ⟨ql, qb, qr, qt⟩ := eq
                generalize us3.getD q true = uq at *
                generalize leftI ⟨el, eb, er, et⟩ ⟨ql, qb, qr, qt⟩ = lf at *
                dsimp only at p0 p1 p2 p3 q0 q1 q2 q3 HLq
                unfold frOf toOf at Hcd
                dsimp only at Hcd
                have hqe1 := fun W => q_eql W ql qb er et
                have hqg := qGuard
                clear hSEr hbw5
                go_upto_region 19 with fail
                by_cases hd : (ql, qb) = (er, et)
                · have hde : (ql == er && qb == et) = true := by injection hd with h1 h2; simp [h1, h2]
                  rw [hde] at hqe1
                  rw [decide_eq_true hd, Bool.true_and] at Hcd
                  clear hd hde
                  by_cases hjs : q = k
                  · rw [decide_eq_true hjs, Bool.true_or] at Hcd
                    subst hjs
                    cases nx with
                    | none =>
                      have Hn2 : Hid (nextU es us3 q i (q + 1) = some q) := Lib.hid (by rw [Hst.out, Hcd.out]; rfl)
                      clear Hst Hcd
                      unfold nxV
                      dsimp only
                      refine wp_region_below (W := wr) wr.heap.size (Nat.le_refl _) (by kernel_rfl) (by kernel_rfl) ?_
                      intro I _ F hFc hFb hFs
                      repeat (go_big_quiet_step ((go_at_call 47; with_reducible exact class_call hFb hFs (Nat.le_refl _) (HLq.out _))))
                      refine wpQuiet_nil ?_
                      rintro _ ⟨iq, rfl⟩
                      have Hfq : Hid (Below w5.heap.size w5 (F iq)) := Lib.hid (Hbq.out.trans ((hFb iq).mono hsq))
                      generalize F iq = wq at *
                      clear hFc hFb hFs p0 p1 p2 p3 q0 q1 q2 q3 cu
                      go_wp2_with fail
                      go_roundw
                      case rel => exact ⟨q + 1, by omega, by go_num, by rw [Hn2.out]; rfl, Hfq.out⟩
                      case measure => simp [intOf]; omega
                    | some z =>
                      have hz0 : ¬ (z : Int) < 0 := by omega
                      have hzq := Hnb.out z rfl
                      cases lf with
                      | true =>
                        have Hn2 : Hid (nextU es us3 q i (q + 1) = some q) := Lib.hid (by rw [Hst.out, Hcd.out]; rfl)
                        clear Hst Hcd
                        unfold nxV
                        dsimp only
                        refine wp_region_below (W := wr) wr.heap.size (Nat.le_refl _) (by kernel_rfl) (by kernel_rfl) ?_
                        intro I _ F hFc hFb hFs
                        repeat (go_big_quiet_step ((go_at_call 47; with_reducible exact class_call hFb hFs (Nat.le_refl _) (HLq.out _))))
                        refine wpQuiet_nil ?_
                        rintro _ ⟨iq, rfl⟩
                        have Hfq : Hid (Below w5.heap.size w5 (F iq)) := Lib.hid (Hbq.out.trans ((hFb iq).mono hsq))
                        generalize F iq = wq at *
                        clear hFc hFb hFs p0 p1 p2 p3 q0 q1 q2 q3 cu
                        go_wp2_with fail
                        go_roundw
                        case rel => exact ⟨q + 1, by omega, by go_num, by rw [Hn2.out]; rfl, Hfq.out⟩
                        case measure => simp [intOf]; omega
                      | false =>
                        have Hn2 : Hid (nextU es us3 q i (q + 1) = some z) := Lib.hid (by rw [Hst.out, Hcd.out]; rfl)
                        clear Hst Hcd
                        unfold nxV
                        dsimp only
                        refine wp_region_below (W := wr) wr.heap.size (Nat.le_refl _) (by kernel_rfl) (by kernel_rfl) ?_
                        intro I _ F hFc hFb hFs
                        repeat (go_big_quiet_step ((go_at_call 47; with_reducible exact class_call hFb hFs (Nat.le_refl _) (HLq.out _))))
                        refine wpQuiet_nil ?_
                        rintro _ ⟨iq, rfl⟩
                        have Hfq : Hid (Below w5.heap.size w5 (F iq)) := Lib.hid (Hbq.out.trans ((hFb iq).mono hsq))
                        generalize F iq = wq at *
                        clear hFc hFb hFs p0 p1 p2 p3 q0 q1 q2 q3 cu
                        go_wp2_with fail
                        go_roundw
                        case rel => exact ⟨q + 1, by omega, by go_num, by rw [Hn2.out]; rfl, Hfq.out⟩
                        case measure => simp [intOf]; omega
                  · rw [decide_eq_false hjs, Bool.false_or] at Hcd
                    have hjs' : (((q : Int) == (k : Int))) = false := by simp; omega
                    have hjs2 : ¬ (q : Int) = (k : Int) := by omega
                    cases uq with
                    | true =>
                      have Hn2 : Hid (nextU es us3 k i (q + 1) = nx) := Lib.hid (by rw [Hst.out, Hcd.out]; rfl)
                      clear Hst Hcd
                      refine wp_region_below (W := wr) wr.heap.size (Nat.le_refl _) (by kernel_rfl) (by kernel_rfl) ?_
                      intro I _ F hFc hFb hFs
                      repeat (go_big_quiet_step ((go_at_call 47; with_reducible exact class_call hFb hFs (Nat.le_refl _) (HLq.out _))))
                      refine wpQuiet_nil ?_
                      rintro _ ⟨iq, rfl⟩
                      have Hfq : Hid (Below w5.heap.size w5 (F iq)) := Lib.hid (Hbq.out.trans ((hFb iq).mono hsq))
                      generalize F iq = wq at *
                      clear hFc hFb hFs p0 p1 p2 p3 q0 q1 q2 q3 cu
                      go_wp2_with fail
                      go_roundw
                      case rel => exact ⟨q + 1, by omega, by go_num, by rw [Hn2.out], Hfq.out⟩
                      case measure => simp [intOf]; omega
                    | false =>
                      cases nx with
                      | none =>
                        have Hn2 : Hid (nextU es us3 k i (q + 1) = some q) := Lib.hid (by rw [Hst.out, Hcd.out]; rfl)
                        clear Hst Hcd
                        unfold nxV
                        dsimp only
                        refine wp_region_below (W := wr) wr.heap.size (Nat.le_refl _) (by kernel_rfl) (by kernel_rfl) ?_
                        intro I _ F hFc hFb hFs
                        repeat (go_big_quiet_step ((go_at_call 47; with_reducible exact class_call hFb hFs (Nat.le_refl _) (HLq.out _))))
                        refine wpQuiet_nil ?_
                        rintro _ ⟨iq, rfl⟩
                        have Hfq : Hid (Below w5.heap.size w5 (F iq)) := Lib.hid (Hbq.out.trans ((hFb iq).mono hsq))
                        generalize F iq = wq at *
                        clear hFc hFb hFs p0 p1 p2 p3 q0 q1 q2 q3 cu
                        go_wp2_with fail
                        go_roundw
                        case rel => exact ⟨q + 1, by omega, by go_num, by rw [Hn2.out]; rfl, Hfq.out⟩
                        case measure => simp [intOf]; omega
                      | some z =>
                        have hz0 : ¬ (z : Int) < 0 := by omega
                        have hzq := Hnb.out z rfl
                        cases lf with
                        | true =>
                          have Hn2 : Hid (nextU es us3 k i (q + 1) = some q) := Lib.hid (by rw [Hst.out, Hcd.out]; rfl)
                          clear Hst Hcd
                          unfold nxV
                          dsimp only
                          refine wp_region_below (W := wr) wr.heap.size (Nat.le_refl _) (by kernel_rfl) (by kernel_rfl) ?_
                          intro I _ F hFc hFb hFs
                          repeat (go_big_quiet_step ((go_at_call 47; with_reducible exact class_call hFb hFs (Nat.le_refl _) (HLq.out _))))
                          refine wpQuiet_nil ?_
                          rintro _ ⟨iq, rfl⟩
                          have Hfq : Hid (Below w5.heap.size w5 (F iq)) := Lib.hid (Hbq.out.trans ((hFb iq).mono hsq))
                          generalize F iq = wq at *
                          clear hFc hFb hFs p0 p1 p2 p3 q0 q1 q2 q3 cu
                          go_wp2_with fail
                          go_roundw
                          case rel => exact ⟨q + 1, by omega, by go_num, by rw [Hn2.out]; rfl, Hfq.out⟩
                          case measure => simp [intOf]; omega
                        | false =>
                          have Hn2 : Hid (nextU es us3 k i (q + 1) = some z) := Lib.hid (by rw [Hst.out, Hcd.out]; rfl)
                          clear Hst Hcd
                          unfold nxV
                          dsimp only
                          refine wp_region_below (W := wr) wr.heap.size (Nat.le_refl _) (by kernel_rfl) (by kernel_rfl) ?_
                          intro I _ F hFc hFb hFs
                          repeat (go_big_quiet_step ((go_at_call 47; with_reducible exact class_call hFb hFs (Nat.le_refl _) (HLq.out _))))
                          refine wpQuiet_nil ?_
                          rintro _ ⟨iq, rfl⟩
                          have Hfq : Hid (Below w5.heap.size w5 (F iq)) := Lib.hid (Hbq.out.trans ((hFb iq).mono hsq))
                          generalize F iq = wq at *
                          clear hFc hFb hFs p0 p1 p2 p3 q0 q1 q2 q3 cu
                          go_wp2_with fail
                          go_roundw
                          case rel => exact ⟨q + 1, by omega, by go_num, by rw [Hn2.out]; rfl, Hfq.out⟩
                          case measure => simp [intOf]; omega
                · have hde : (ql == er && qb == et) = false := by
                    rw [← Bool.not_eq_true]
                    intro h
                    simp at h
                    exact hd (by rw [h.1, h.2])
                  rw [hde] at hqe1
                  have Hn2 : Hid (nextU es us3 k i (q + 1) = nx) := Lib.hid (by rw [Hst.out, Hcd.out, decide_eq_false hd]; rfl)
                  clear Hst Hcd hd hde
                  refine wp_region_below (W := wr) wr.heap.size (Nat.le_refl _) (by kernel_rfl) (by kernel_rfl) ?_
                  intro I _ F hFc hFb hFs
                  repeat (go_big_quiet_step ((go_at_call 47; with_reducible exact class_call hFb hFs (Nat.le_refl _) (HLq.out _))))
                  refine wpQuiet_nil ?_
                  rintro _ ⟨iq, rfl⟩
                  have Hfq : Hid (Below w5.heap.size w5 (F iq)) := Lib.hid (Hbq.out.trans ((hFb iq).mono hsq))
                  generalize F iq = wq at *
                  clear hFc hFb hFs p0 p1 p2 p3 q0 q1 q2 q3 cu
                  go_wp2_with fail
                  go_roundw
                  case rel => exact ⟨q + 1, by omega, by go_num, by rw [Hn2.out], Hfq.out⟩
                  case measure => simp [intOf]; omega
              · obtain rfl : q = N := by omega
                have hqN' : ¬ (q : Int) < (q : Int) := by omega
                have hnx := Hnx.out
                rw [HN.out] at hnx
                rw [hnx]
                clear hnx Hnx
                unfold nxV
                dsimp only
                have hj0 : ¬ (j : Int) < 0 := by omega
                have hal2 := HL2.out
                have hal3 := own_slLen Hacc5.out
                have Hab2 := Lib.hid HSt.out.bound
                go_wp2_with fail
                go_roundw
                case rel => exact ⟨j, us3, acc ++ [ge es i], by omega, by rfl, HSt, Hus5.out.below Hbq.out, ownsRow_below Hacc5.out Hbq.out, Hrg5.out.below Hbq.out, Hb5.out.trans (Hbq.out.mono hs5)⟩
                case measure =>
                  have h6 := Hab2.out
                  have h7 := HN.out
                  rw [hal2, hal3]
                  simp at h6 ⊢
                  omega
    · obtain rfl : k = N := by omega
      have hkN' : ¬ (k : Int) < (k : Int) := by omega
      have Hcs : Hid (Rings P es cs) := Lib.hid (by have := HRs.out; rw [← HN.out] at this; exact this.done)
      have Hne : Hid (∀ r ∈ cs.map ringOf, r ≠ []) := Lib.hid fun r hr => by
        obtain ⟨c, hc, rfl⟩ := List.mem_map.1 hr
        exact ringOf_ne Hset.out (Hcs.out.ring c hc)
      clear HRs Hus
      obtain ⟨m, hm⟩ : ∃ m, rs.length = m := ⟨_, rfl⟩
      have Hm := Lib.hid hm
      obtain ⟨CV, cc, rfl, -, -, -⟩ := own_slice Hrg.out.row
      rw [hm] at hrk Hrg ⊢
      clear hm
      have hmN : m ≤ 230400 := by omega
      obtain ⟨L0, hL0⟩ : ∃ L0, cs.map ringOf = L0 := ⟨_, rfl⟩
      rw [hL0] at Hne Hrs
      have HL0 := Lib.hid hL0
      have HSo0 : Hid (SortL L0 (rs.map (·.2)) 0) := Lib.hid (by rw [Hrs.out]; exact SortL.start L0)
      have Hll : Hid (cs.length = m) := Lib.hid (by have h1 := congrArg List.length Hrs.out; rw [← hL0] at h1; simp at h1; rw [← h1]; exact Hm.out)
      clear hL0 Hrs
      go_upto_region 27 with fail
      go_loopw [105] (fun iv wq => ∃ (i : Nat) (rs2 : List (Value × List Pt)), i ≤ m ∧ iv = .int .i64 (i : Int) ∧ rs2.length = m ∧ Hid (SortL L0 (rs2.map (·.2)) i) ∧ RgAt wq B (.slice CV m cc) rs2 ∧ Below B w2 wq) (fun iv _ => m - (intOf iv).toNat)
      case atStart => exact ⟨0, rs, Nat.zero_le _, rfl, Hm.out, HSo0, Hrg.out, Hbr.out⟩
      case round =>
        obtain ⟨i, rs2, him, rfl, hl2, HSo, hrg2, hbr2⟩ := hrel
        have Hrg2 := Lib.hid hrg2
        have Hbr2 := Lib.hid hbr2
        have Hl2 := Lib.hid hl2
        have hsr2 : B ≤ wr.heap.size := by have := hbr2.size; have := HB.out; omega
        clear hrg2 hbr2 hl2 Hrg Hbr hsr
        by_cases hin : i < m
        · have hin' : (i : Int) < (m : Int) := by omega
          have hi0 : (0 : Int) ≤ (i : Int) := by omega
          have HSk0 := Lib.hid (HSo.out.sink (by rw [List.length_map, Hl2.out]; exact hin))
          clear HSo
          go_upto_region 30 with fail
          go_loopw [13] (fun kv wq => ∃ (k : Nat) (rs3 : List (Value × List Pt)), k ≤ i ∧ kv = .int .i64 (k : Int) ∧ rs3.length = m ∧ Hid (SinkL L0 (rs3.map (·.2)) i k) ∧ RgAt wq B (.slice CV m cc) rs3 ∧ Below B w2 wq) (fun kv _ => (intOf kv).toNat)
          case atStart => exact ⟨i, rs2, Nat.le_refl _, rfl, Hl2.out, HSk0, Hrg2.out, Hbr2.out⟩
          case round =>
            obtain ⟨k, rs3, hki, rfl, hl3, HSk, hrg3, hbr3⟩ := hrel
            have Hrg3 := Lib.hid hrg3
            have Hbr3 := Lib.hid hbr3
            have Hl3 := Lib.hid hl3
            have hsr3 : B ≤ wr.heap.size := by have := hbr3.size; have := HB.out; omega
            clear hrg3 hbr3 hl3
            rcases Nat.eq_zero_or_pos k with hk0 | hk0
            · subst hk0
              have HDn := Lib.hid (HSk.out.done (.inl rfl))
              have hz : ¬ (0 : Int) > 0 := by omega
              rw [show ((0 : Nat) : Int) = 0 from rfl]
              go_upto_region 30 with fail
              refine wp_region_below (W := wr) wr.heap.size (Nat.le_refl _) (by kernel_rfl) (by kernel_rfl) ?_
              intro I _ F hFc hFb hFs
              repeat (go_big_quiet_step (fail))
              refine wpQuiet_nil ?_
              rintro _ ⟨iq, rfl⟩
              have Hfq : Hid (Below wr.heap.size wr (F iq)) := Lib.hid (hFb iq)
              generalize F iq = wq at *
              clear hFc hFb hFs
              go_wp2_with fail
              go_roundw
              case rel => exact ⟨i + 1, rs3, by omega, by go_num, Hl3.out, HDn, Hrg3.out.below Hfq.out, Hbr3.out.trans (Hfq.out.mono hsr3)⟩
              case measure => simp [intOf]; omega
            · obtain ⟨k1, rfl⟩ : ∃ k1, k = k1 + 1 := ⟨k - 1, by omega⟩
              have hk1m : k1 + 1 < m := by omega
              have h1l : k1 + 1 < rs3.length := by have := Hl3.out; omega
              have h0l : k1 < rs3.length := by have := Hl3.out; omega
              obtain ⟨g, cap, hge, hgb, hgl, hgc, hgm, hgv, hgf⟩ := own_at Hrg3.out.row (by omega)
              have hne1 : rs3[k1 + 1].2 ≠ [] := Hne.out _ (HSk.out.perm.mem_iff.1 (List.mem_map.2 ⟨_, List.getElem_mem h1l, rfl⟩))
              have hne0 : rs3[k1].2 ≠ [] := Hne.out _ (HSk.out.perm.mem_iff.1 (List.mem_map.2 ⟨_, List.getElem_mem h0l, rfl⟩))
              obtain ⟨b1, c1, e1, hb1, hl1, p0, p1, hp⟩ := head_at (Hrg3.out.pts _ (List.getElem_mem h1l)) hne1
              obtain ⟨b0, c0, e0, hb0, hl0, q0, q1, hq⟩ := head_at (Hrg3.out.pts _ (List.getElem_mem h0l)) hne0
              have v1 := hgv (k1 + 1) rs3[k1 + 1].1 (by rw [List.getElem?_map, List.getElem?_eq_getElem h1l]; rfl)
              have v0 := hgv k1 rs3[k1].1 (by rw [List.getElem?_map, List.getElem?_eq_getElem h0l]; rfl)
              rw [e1] at v1
              rw [e0] at v0
              have f1 := hgf (k1 + 1)
              have f0 := hgf k1
              have hbf : befR ((rs3.map (·.2))[k1 + 1]'(by rw [List.length_map]; exact h1l)) ((rs3.map (·.2))[k1]'(by rw [List.length_map]; exact h0l)) = befP (hdP rs3[k1 + 1].2) (hdP rs3[k1].2) := by simp [befR, befP]
              have hbf2 : befR ((rs3.map (·.2))[k1 + 1]'(by rw [List.length_map]; exact h1l)) ((rs3.map (·.2))[k1 + 1 - 1]'(by rw [List.length_map]; omega)) = befP (hdP rs3[k1 + 1].2) (hdP rs3[k1].2) := by simp [befR, befP]
              have Hsw : Hid (befP (hdP rs3[k1 + 1].2) (hdP rs3[k1].2) = true → SinkL L0 (((rs3.map (·.2)).set k1 ((rs3.map (·.2))[k1 + 1]'(by rw [List.length_map]; exact h1l))).set (k1 + 1) ((rs3.map (·.2))[k1]'(by rw [List.length_map]; exact h0l))) i k1) := Lib.hid (fun h => HSk.out.swap (by rw [List.length_map]; exact h1l) (hbf.trans h))
              have Hdn : Hid (befP (hdP rs3[k1 + 1].2) (hdP rs3[k1].2) = false → SortL L0 (rs3.map (·.2)) (i + 1)) := Lib.hid (fun h => HSk.out.done (.inr ⟨by omega, by rw [List.length_map]; exact h1l, hbf2.trans h⟩))
              have HBe := Lib.hid (fun W => before5_any (hdP rs3[k1 + 1].2) (hdP rs3[k1].2) W)
              have E1 := Lib.hid e1
              have E0 := Lib.hid e0
              rw [Hl3.out] at hge
              injection hge with hge1 _ hge2
              subst hge1 hge2
              generalize befP (hdP rs3[k1 + 1].2) (hdP rs3[k1].2) = bf at *
              generalize hx1 : hdP rs3[k1 + 1].2 = x1 at *
              generalize hx0 : hdP rs3[k1].2 = x0 at *
              generalize hn1 : rs3[k1 + 1].2.length = n1 at *
              generalize hn0 : rs3[k1].2.length = n0 at *
              obtain ⟨x1x, x1y⟩ := x1
              obtain ⟨x0x, x0y⟩ := x0
              dsimp only at p0 p1 q0 q1 HBe
              clear hx1 hx0 hn1 hn0 hbf hbf2 hne1 hne0 e1 e0
              have hkp : ((k1 + 1 : Nat) : Int) > 0 := by omega
              have hkp2 : (0 : Int) < ((k1 + 1 : Nat) : Int) := by omega
              have hkm' : ((k1 + 1 : Nat) : Int) < (m : Int) := by omega
              have hkm0 : (k1 : Int) < (m : Int) := by omega
              have hk00 : (0 : Int) ≤ (k1 : Int) := by omega
              have hk01 : (0 : Int) ≤ ((k1 + 1 : Nat) : Int) := by omega
              have hwk : IntKind.i64.wrap (((k1 + 1 : Nat) : Int) - 1) = (k1 : Int) := by rw [show ((k1 + 1 : Nat) : Int) - 1 = (k1 : Int) by omega]; exact IntWalk.i64_in _ (by omega)
              have hp' : (0 : Int) < (n1 : Int) := by omega
              have hq' : (0 : Int) < (n0 : Int) := by omega
              obtain ⟨K, hK⟩ : ∃ K, k1 + 1 = K := ⟨_, rfl⟩
              have HKK := Lib.hid hK
              rw [hK] at v1 f1 hkp hkp2 hkm' hk01 hwk hk1m ⊢
              have hki' : K ≤ i := by omega
              clear hK hgv hgf
              have hK0 : 0 < K := by have := HKK.out; omega
              have hk0m : k1 < m := by omega
              go_upto_region 30 with fail
              refine wp_region_below (W := wr) wr.heap.size (Nat.le_refl _) (by kernel_rfl) (by kernel_rfl) ?_
              intro I _ F hFc hFb hFs
              repeat (go_big_quiet_step ((go_at_call 49; with_reducible exact class_call hFb hFs (Nat.le_refl _) (HBe.out _))))
              refine wpQuiet_nil ?_
              rintro _ ⟨iq, rfl⟩
              have Hfq : Hid (Below wr.heap.size wr (F iq)) := Lib.hid (hFb iq)
              generalize F iq = wq at *
              clear hFc hFb hFs
              have hrgq := Hrg3.out.below Hfq.out
              have Hrgq := Lib.hid hrgq
              have Hbq : Hid (Below B w2 wq) := Lib.hid (Hbr3.out.trans (Hfq.out.mono hsr3))
              have hsq : B ≤ wq.heap.size := by have := Hbq.out.size; have := HB.out; omega
              have v1q := (Hfq.out.cell (p := ⟨g, K, none⟩) hgl).trans v1
              have v0q := (Hfq.out.cell (p := ⟨g, k1, none⟩) hgl).trans v0
              clear v1 v0 p0 p1 q0 q1 f1 f0 hrgq
              cases bf with
              | false =>
                have HDn := Lib.hid (Hdn.out rfl)
                go_wp2_with fail
                go_roundw
                case rel => exact ⟨i + 1, rs3, by omega, by go_num, Hl3.out, HDn, Hrgq.out, Hbq.out⟩
                case measure => simp [intOf]; omega
              | true =>
                have HSw := Lib.hid (Hsw.out rfl)
                clear Hsw Hdn
                obtain ⟨y1, hy1⟩ : ∃ y1, rs3[k1 + 1]'h1l = y1 := ⟨_, rfl⟩
                obtain ⟨y0, hy0⟩ : ∃ y0, rs3[k1]'h0l = y0 := ⟨_, rfl⟩
                rw [hy1] at E1
                rw [hy0] at E0
                have Hsw2 : Hid (SinkL L0 (((rs3.set K y0).set k1 y1).map (·.2)) i k1) := Lib.hid (by
                  have := HSw.out
                  simp only [List.getElem_map] at this
                  rw [hy1, hy0] at this
                  rw [← HKK.out, List.set_comm _ _ (show k1 + 1 ≠ k1 by omega), List.map_set, List.map_set]
                  exact this)
                have hmem : ∀ x ∈ (rs3.set K y0).set k1 y1, x ∈ rs3 := fun x hx => by
                  rcases List.mem_or_eq_of_mem_set hx with h | rfl
                  · rcases List.mem_or_eq_of_mem_set h with h | rfl
                    · exact h
                    · rw [← hy0]; exact List.getElem_mem _
                  · rw [← hy1]; exact List.getElem_mem _
                have hlen4 : ((rs3.set K y0).set k1 y1).length = m := by simp [Hl3.out]
                obtain ⟨rs4, hrs4⟩ : ∃ rs4, (rs3.set K y0).set k1 y1 = rs4 := ⟨_, rfl⟩
                obtain ⟨wd, hwd⟩ : ∃ wd : World, wd = wq.drew := ⟨_, rfl⟩
                have Hrgd := Lib.hid (show RgAt wd B (.slice (some ⟨g, 0, none⟩) m cc) rs3 from by rw [hwd]; exact Hrgq.out.below (Below.refl _ _).drew)
                have hrow : (((wd.setCell ⟨g, K, none⟩ (.slice (some ⟨b0, 0, none⟩) n0 c0)).setCell ⟨g, k1, none⟩ (.slice (some ⟨b1, 0, none⟩) n1 c1))).ownsRow B 40 1 (.slice (some ⟨g, 0, none⟩) m cc) m (rs4.map (·.1)) := by
                  have h1 := own_setN (own_setN (by have := Hrgd.out.row; rw [Hl3.out] at this; exact this) K (.slice (some ⟨b0, 0, none⟩) n0 c0)) k1 (.slice (some ⟨b1, 0, none⟩) n1 c1)
                  rw [← hrs4, List.map_set, List.map_set, E1.out, E0.out]
                  exact h1
                have Hrg4 : Hid (RgAt (((wd.setCell ⟨g, K, none⟩ (.slice (some ⟨b0, 0, none⟩) n0 c0)).setCell ⟨g, k1, none⟩ (.slice (some ⟨b1, 0, none⟩) n1 c1))) B (.slice (some ⟨g, 0, none⟩) m cc) rs4) := Lib.hid ⟨by rw [← hrs4, hlen4, hrs4]; exact hrow, fun x hx => by
                  rw [← hrs4] at hx
                  have hp1 := Hrgd.out.pts x (hmem x hx)
                  have hr1 := Hrgd.out.row
                  rw [Hl3.out] at hr1
                  exact own_setT5 (own_setT5 hp1 hr1 (by decide) K _) (own_setN hr1 K _) (by decide) k1 _⟩
                have Hbd : Hid (Below B w2 ((wd.setCell ⟨g, K, none⟩ (.slice (some ⟨b0, 0, none⟩) n0 c0)).setCell ⟨g, k1, none⟩ (.slice (some ⟨b1, 0, none⟩) n1 c1))) := Lib.hid (by rw [hwd]; exact ((Hbq.out.drew).setCell (by exact hgb) _).setCell (by exact hgb) _)
                have v1d : wd.cell? ⟨g, K, none⟩ = some (.slice (some ⟨b1, 0, none⟩) n1 c1) := by rw [hwd]; exact v1q
                have v0d : wd.cell? ⟨g, k1, none⟩ = some (.slice (some ⟨b0, 0, none⟩) n0 c0) := by rw [hwd]; exact v0q
                have hfd : wd.frozen? ⟨g, K, none⟩ = false ∧ wd.frozen? ⟨g, k1, none⟩ = false := by
                  obtain ⟨g', cap', hge3, _, hgl3, _, _, hgv3, hgf3⟩ := own_at (by have := Hrgd.out.row; rw [Hl3.out] at this; exact this) (show 0 < m by omega)
                  injection hge3 with hge3 _ _
                  injection hge3 with hge3
                  injection hge3 with hge3
                  subst hge3
                  exact ⟨hgf3 K, hgf3 k1⟩
                obtain ⟨f1d, f0d⟩ := hfd
                have v0s : (wd.setCell ⟨g, K, none⟩ (.slice (some ⟨b0, 0, none⟩) n0 c0)).cell? ⟨g, k1, none⟩ = some (.slice (some ⟨b0, 0, none⟩) n0 c0) := by
                  obtain ⟨g', cap', e', _, _, _, _, hc', _⟩ := own_at (own_setN (by have := Hrgd.out.row; rw [Hl3.out] at this; exact this) K (.slice (some ⟨b0, 0, none⟩) n0 c0)) (show 0 < m by omega)
                  injection e' with e1 _ _
                  injection e1 with e1
                  injection e1 with e1
                  subst e1
                  refine hc' k1 _ ?_
                  rw [List.getElem?_set, if_neg (by have := HKK.out; omega), List.getElem?_map, List.getElem?_eq_getElem h0l, hy0]
                  show some y0.1 = _
                  rw [E0.out]
                have f0s : (wd.setCell ⟨g, K, none⟩ (.slice (some ⟨b0, 0, none⟩) n0 c0)).frozen? ⟨g, k1, none⟩ = false := by rw [World.frozen?_setCell]; exact f0d
                have Hlen4 : Hid (rs4.length = m) := Lib.hid (by rw [← hrs4]; exact hlen4)
                rw [hrs4] at Hsw2
                clear hmem hlen4 hrs4 hrow hy1 hy0 HSw Hrgd v1q v0q Hrgq
                go_upto_region 32 with fail
                refine wp_region_held (S := fun _ => True) (by kernel_rfl) ?_
                change wpAnyH _ _ _ _ _ 18 #[false, false, false, false, false, false, false, false, false, false, false, false, false, false, false, false, false, false] _ wq.drew
                rw [← hwd]
                clear hwd
                have hHeld : (fun _ : World => True) wd := trivial
                refine wpAnyH_take (i := 0) (v := ?vva0) rfl (by kernel_rfl) (by kernel_rfl) (by kernel_rfl) (fun _ _ _ h => h) (Or.inl ⟨by rfl, ?hya0⟩) hHeld ?resta0; (case hya0 => (intro w hSw; (try dsimp only at hSw); go_simp; all_goals (with_reducible rfl))); simp only [Act.put, List.getElem_toArray, List.getElem_cons_zero, List.getElem_cons_succ, List.setIfInBounds_toArray, List.set_cons_zero, List.set_cons_succ]
                refine wpAnyH_take (i := 1) (v := ?vva1) rfl (by kernel_rfl) (by kernel_rfl) (by kernel_rfl) (fun _ _ _ h => h) (Or.inl ⟨by rfl, ?hya1⟩) hHeld ?resta1; (case hya1 => (intro w hSw; (try dsimp only at hSw); go_simp; all_goals (with_reducible rfl))); simp only [Act.put, List.getElem_toArray, List.getElem_cons_zero, List.getElem_cons_succ, List.setIfInBounds_toArray, List.set_cons_zero, List.set_cons_succ]
                refine wpAnyH_take (i := 2) (v := ?vva2) rfl (by kernel_rfl) (by kernel_rfl) (by kernel_rfl) (fun _ _ _ h => h) (Or.inl ⟨by rfl, ?hya2⟩) hHeld ?resta2; (case hya2 => (intro w hSw; (try dsimp only at hSw); go_simp; all_goals (with_reducible rfl))); simp only [Act.put, List.getElem_toArray, List.getElem_cons_zero, List.getElem_cons_succ, List.setIfInBounds_toArray, List.set_cons_zero, List.set_cons_succ]
                refine wpAnyH_take (i := 3) (v := ?vva3) rfl (by kernel_rfl) (by kernel_rfl) (by kernel_rfl) (fun _ _ _ h => h) (Or.inl ⟨by rfl, ?hya3⟩) hHeld ?resta3; (case hya3 => (intro w hSw; (try dsimp only at hSw); go_simp; all_goals (with_reducible rfl))); simp only [Act.put, List.getElem_toArray, List.getElem_cons_zero, List.getElem_cons_succ, List.setIfInBounds_toArray, List.set_cons_zero, List.set_cons_succ]
                refine wpAnyH_take (i := 4) (v := ?vva4) rfl (by kernel_rfl) (by kernel_rfl) (by kernel_rfl) (fun _ _ _ h => h) (Or.inl ⟨by rfl, ?hya4⟩) hHeld ?resta4; (case hya4 => (intro w hSw; (try dsimp only at hSw); go_simp; all_goals (with_reducible rfl))); simp only [Act.put, List.getElem_toArray, List.getElem_cons_zero, List.getElem_cons_succ, List.setIfInBounds_toArray, List.set_cons_zero, List.set_cons_succ]
                refine wpAnyH_take (i := 5) (v := ?vva5) rfl (by kernel_rfl) (by kernel_rfl) (by kernel_rfl) (fun _ _ _ h => h) (Or.inl ⟨by rfl, ?hya5⟩) hHeld ?resta5; (case hya5 => (intro w hSw; (try dsimp only at hSw); go_simp; all_goals (with_reducible rfl))); simp only [Act.put, List.getElem_toArray, List.getElem_cons_zero, List.getElem_cons_succ, List.setIfInBounds_toArray, List.set_cons_zero, List.set_cons_succ]
                refine wpAnyH_take (i := 6) (v := ?vva6) rfl (by kernel_rfl) (by kernel_rfl) (by kernel_rfl) (fun _ _ _ h => h) (Or.inl ⟨by rfl, ?hya6⟩) hHeld ?resta6; (case hya6 => (intro w hSw; (try dsimp only at hSw); go_simp; all_goals (with_reducible rfl))); simp only [Act.put, List.getElem_toArray, List.getElem_cons_zero, List.getElem_cons_succ, List.setIfInBounds_toArray, List.set_cons_zero, List.set_cons_succ]
                refine wpAnyH_take (i := 7) (v := ?vva7) rfl (by kernel_rfl) (by kernel_rfl) (by kernel_rfl) (fun _ _ _ h => h) (Or.inl ⟨by rfl, ?hya7⟩) hHeld ?resta7; (case hya7 => (intro w hSw; (try dsimp only at hSw); go_simp; all_goals (with_reducible rfl))); simp only [Act.put, List.getElem_toArray, List.getElem_cons_zero, List.getElem_cons_succ, List.setIfInBounds_toArray, List.set_cons_zero, List.set_cons_succ]
                refine wpAnyH_take (i := 8) (v := ?vva8) rfl (by kernel_rfl) (by kernel_rfl) (by kernel_rfl) (fun _ _ _ h => h) (Or.inl ⟨by rfl, ?hya8⟩) hHeld ?resta8; (case hya8 => (intro w hSw; (try dsimp only at hSw); go_simp; all_goals (with_reducible rfl))); simp only [Act.put, List.getElem_toArray, List.getElem_cons_zero, List.getElem_cons_succ, List.setIfInBounds_toArray, List.set_cons_zero, List.set_cons_succ]
                refine wpAnyH_take (i := 10) (v := ?vva10) rfl (by kernel_rfl) (by kernel_rfl) (by kernel_rfl) (fun _ _ _ h => h) (Or.inl ⟨by rfl, ?hya10⟩) hHeld ?resta10; (case hya10 => (intro w hSw; (try dsimp only at hSw); go_simp; all_goals (with_reducible rfl))); simp only [Act.put, List.getElem_toArray, List.getElem_cons_zero, List.getElem_cons_succ, List.setIfInBounds_toArray, List.set_cons_zero, List.set_cons_succ]
                refine wpAnyH_take (i := 11) (v := ?vva11) rfl (by kernel_rfl) (by kernel_rfl) (by kernel_rfl) (fun _ _ _ h => h) (Or.inl ⟨by rfl, ?hya11⟩) hHeld ?resta11; (case hya11 => (intro w hSw; (try dsimp only at hSw); go_simp; all_goals (with_reducible rfl))); simp only [Act.put, List.getElem_toArray, List.getElem_cons_zero, List.getElem_cons_succ, List.setIfInBounds_toArray, List.set_cons_zero, List.set_cons_succ]
                refine wpAnyH_take (i := 12) (v := ?vva12) rfl (by kernel_rfl) (by kernel_rfl) (by kernel_rfl) (fun _ _ _ h => h) (Or.inl ⟨by rfl, ?hya12⟩) hHeld ?resta12; (case hya12 => (intro w hSw; (try dsimp only at hSw); go_simp; all_goals (with_reducible rfl))); simp only [Act.put, List.getElem_toArray, List.getElem_cons_zero, List.getElem_cons_succ, List.setIfInBounds_toArray, List.set_cons_zero, List.set_cons_succ]
                refine wpAnyH_ready (rs := [9, 13]) (by kernel_rfl) (by simp) ?_
                refine AllReadyH.cons rfl (fun K1 hK1 => ?_) (AllReadyH.cons rfl (fun K1 hK1 => ?_) AllReadyH.nil)
                · go_simp
                  refine hK1.out _ _ trivial (fun hHeld => ?_)
                  clear hK1 K1
                  try simp only [Act.put, List.getElem_toArray, List.getElem_cons_zero, List.getElem_cons_succ, List.setIfInBounds_toArray, List.set_cons_zero, List.set_cons_succ]
                  refine wpAnyH_ready (rs := [13]) (by kernel_rfl) (by simp) ?_
                  refine AllReadyH.cons rfl (fun K1 hK1 => ?_) AllReadyH.nil
                  go_simp
                  refine hK1.out _ _ trivial (fun hHeld => ?_)
                  clear hK1 K1
                  try simp only [Act.put, List.getElem_toArray, List.getElem_cons_zero, List.getElem_cons_succ, List.setIfInBounds_toArray, List.set_cons_zero, List.set_cons_succ]
                  refine wpAnyH_ready (rs := [14]) (by kernel_rfl) (by simp) ?_
                  refine AllReadyH.cons rfl (fun K1 hK1 => ?_) AllReadyH.nil
                  go_simp
                  refine hK1.out _ _ trivial (fun hHeld => ?_)
                  clear hK1 K1
                  try simp only [Act.put, List.getElem_toArray, List.getElem_cons_zero, List.getElem_cons_succ, List.setIfInBounds_toArray, List.set_cons_zero, List.set_cons_succ]
                  refine wpAnyH_ready (rs := [15]) (by kernel_rfl) (by simp) ?_
                  refine AllReadyH.cons rfl (fun K1 hK1 => ?_) AllReadyH.nil
                  go_simp
                  refine hK1.out _ _ trivial (fun hHeld => ?_)
                  clear hK1 K1
                  try simp only [Act.put, List.getElem_toArray, List.getElem_cons_zero, List.getElem_cons_succ, List.setIfInBounds_toArray, List.set_cons_zero, List.set_cons_succ]
                  refine wpAnyH_ready (rs := [16]) (by kernel_rfl) (by simp) ?_
                  refine AllReadyH.cons rfl (fun K1 hK1 => ?_) AllReadyH.nil
                  go_simp
                  refine hK1.out _ _ trivial (fun hHeld => ?_)
                  clear hK1 K1
                  try simp only [Act.put, List.getElem_toArray, List.getElem_cons_zero, List.getElem_cons_succ, List.setIfInBounds_toArray, List.set_cons_zero, List.set_cons_succ]
                  refine wpAnyH_ready (rs := [17]) (by kernel_rfl) (by simp) ?_
                  refine AllReadyH.cons rfl (fun K1 hK1 => ?_) AllReadyH.nil
                  go_simp
                  refine hK1.out _ _ trivial (fun hHeld => ?_)
                  clear hK1 K1
                  try simp only [Act.put, List.getElem_toArray, List.getElem_cons_zero, List.getElem_cons_succ, List.setIfInBounds_toArray, List.set_cons_zero, List.set_cons_succ]
                  refine wpAnyH_done (by kernel_rfl) ?_ _
                  clear hHeld
                  obtain ⟨w6, hw6⟩ : ∃ w6 : World, w6 = (wd.setCell ⟨g, K, none⟩ (.slice (some ⟨b0, 0, none⟩) n0 c0)).setCell ⟨g, k1, none⟩ (.slice (some ⟨b1, 0, none⟩) n1 c1) := ⟨_, rfl⟩
                  rw [← hw6] at Hrg4 Hbd ⊢
                  clear hw6 v0s f0s v1d v0d f1d f0d
                  go_wp2_with fail
                  go_roundw
                  case rel => exact ⟨k1, rs4, by have := HKK.out; omega, by rfl, Hlen4.out, Hsw2, Hrg4.out, Hbd.out⟩
                  case measure => have := HKK.out; simp [intOf]; omega
                · go_simp
                  refine hK1.out _ _ trivial (fun hHeld => ?_)
                  clear hK1 K1
                  try simp only [Act.put, List.getElem_toArray, List.getElem_cons_zero, List.getElem_cons_succ, List.setIfInBounds_toArray, List.set_cons_zero, List.set_cons_succ]
                  refine wpAnyH_ready (rs := [9]) (by kernel_rfl) (by simp) ?_
                  refine AllReadyH.cons rfl (fun K1 hK1 => ?_) AllReadyH.nil
                  go_simp
                  refine hK1.out _ _ trivial (fun hHeld => ?_)
                  clear hK1 K1
                  try simp only [Act.put, List.getElem_toArray, List.getElem_cons_zero, List.getElem_cons_succ, List.setIfInBounds_toArray, List.set_cons_zero, List.set_cons_succ]
                  refine wpAnyH_ready (rs := [14]) (by kernel_rfl) (by simp) ?_
                  refine AllReadyH.cons rfl (fun K1 hK1 => ?_) AllReadyH.nil
                  go_simp
                  refine hK1.out _ _ trivial (fun hHeld => ?_)
                  clear hK1 K1
                  try simp only [Act.put, List.getElem_toArray, List.getElem_cons_zero, List.getElem_cons_succ, List.setIfInBounds_toArray, List.set_cons_zero, List.set_cons_succ]
                  refine wpAnyH_ready (rs := [15]) (by kernel_rfl) (by simp) ?_
                  refine AllReadyH.cons rfl (fun K1 hK1 => ?_) AllReadyH.nil
                  go_simp
                  refine hK1.out _ _ trivial (fun hHeld => ?_)
                  clear hK1 K1
                  try simp only [Act.put, List.getElem_toArray, List.getElem_cons_zero, List.getElem_cons_succ, List.setIfInBounds_toArray, List.set_cons_zero, List.set_cons_succ]
                  refine wpAnyH_ready (rs := [16]) (by kernel_rfl) (by simp) ?_
                  refine AllReadyH.cons rfl (fun K1 hK1 => ?_) AllReadyH.nil
                  go_simp
                  refine hK1.out _ _ trivial (fun hHeld => ?_)
                  clear hK1 K1
                  try simp only [Act.put, List.getElem_toArray, List.getElem_cons_zero, List.getElem_cons_succ, List.setIfInBounds_toArray, List.set_cons_zero, List.set_cons_succ]
                  refine wpAnyH_ready (rs := [17]) (by kernel_rfl) (by simp) ?_
                  refine AllReadyH.cons rfl (fun K1 hK1 => ?_) AllReadyH.nil
                  go_simp
                  refine hK1.out _ _ trivial (fun hHeld => ?_)
                  clear hK1 K1
                  try simp only [Act.put, List.getElem_toArray, List.getElem_cons_zero, List.getElem_cons_succ, List.setIfInBounds_toArray, List.set_cons_zero, List.set_cons_succ]
                  refine wpAnyH_done (by kernel_rfl) ?_ _
                  clear hHeld
                  obtain ⟨w6, hw6⟩ : ∃ w6 : World, w6 = (wd.setCell ⟨g, K, none⟩ (.slice (some ⟨b0, 0, none⟩) n0 c0)).setCell ⟨g, k1, none⟩ (.slice (some ⟨b1, 0, none⟩) n1 c1) := ⟨_, rfl⟩
                  rw [← hw6] at Hrg4 Hbd ⊢
                  clear hw6 v0s f0s v1d v0d f1d f0d
                  go_wp2_with fail
                  go_roundw
                  case rel => exact ⟨k1, rs4, by have := HKK.out; omega, by rfl, Hlen4.out, Hsw2, Hrg4.out, Hbd.out⟩
                  case measure => have := HKK.out; simp [intOf]; omega
        · obtain rfl : i = m := by omega
          have hin' : ¬ (i : Int) < (i : Int) := by omega
          have Hord : Hid ((rs2.map (·.2)).Pairwise fun a b => befR b a = false) := Lib.hid (by
            have h1 := HSo.out.ord
            rw [List.take_of_length_le (by rw [List.length_map, Hl2.out]; exact Nat.le_refl _)] at h1
            exact h1)
          have Hperm : Hid ((rs2.map (·.2)).Perm (cs.map ringOf)) := Lib.hid (by rw [HL0.out]; exact HSo.out.perm)
          have Hbw : Hid (Below w.heap.size w wr) := Lib.hid (Hb2.out.trans (by have := Hbr2.out; rw [← HB.out] at this; exact this.mono (by have := HB.out; omega)))
          clear HSo HSo0 Hne HL0
          by_cases h60 : 60 < i
          · have h60' : (i : Int) > 60 := by omega
            have Hr : Hid (RgRes5 l [] 1) := Lib.hid (Hres.out [] 1 cs Hcs.out (.inl ⟨.inl (by rw [Hll.out]; exact h60), rfl, rfl⟩))
            go_wp2_with fail
            refine bodyPost_ret (v := .tuple #[.slice none 0 0, .int .i64 1]) (by simp [results, Tryz.results17, go_sem, *]) rfl ?_
            exact ⟨_, [], 1, rfl, RgAt.nil _ _, Hbw.out, Hr.out⟩
          · have h60' : ¬ (i : Int) > 60 := by omega
            have hwsz := Hbw.out.size
            obtain ⟨wo, hwo⟩ : ∃ wo : World, wo = wr := ⟨_, rfl⟩
            rw [← hwo] at Hrg2 Hbw Hbr2 hsr2 hwsz ⊢
            clear hwo
            go_upto_region 37 with fail
            go_loopw [151] (fun jv wq => ∃ j : Nat, j ≤ i ∧ jv = .int .i64 (j : Int) ∧ wq = wo ∧ Hid (∀ x ∈ (rs2.take j), ¬ 400 < x.2.length)) (fun jv _ => i - (intOf jv).toNat)
            case atStart => exact ⟨0, Nat.zero_le _, rfl, rfl, Lib.hid (by simp)⟩
            case round =>
              obtain ⟨j, hji, rfl, rfl, Hsh⟩ := hrel
              by_cases hjn : j < i
              · have hjn' : (j : Int) < (i : Int) := by omega
                have hjl : j < rs2.length := by have := Hl2.out; omega
                obtain ⟨g, cap, hge, hgb, hgl, hgc, hgm, hgv, hgf⟩ := own_at Hrg2.out.row (by omega)
                have v1 := hgv j rs2[j].1 (by rw [List.getElem?_map, List.getElem?_eq_getElem hjl]; rfl)
                obtain ⟨A1, c1, e1, -, -, -⟩ := own_slice (Hrg2.out.pts _ (List.getElem_mem hjl))
                rw [e1] at v1
                have Hlong : Hid (400 < rs2[j].2.length → ∃ r ∈ cs.map ringOf, 400 < r.length) := Lib.hid fun h => ⟨_, Hperm.out.mem_iff.1 (List.mem_map.2 ⟨_, List.getElem_mem hjl, rfl⟩), h⟩
                have Hsh2 : Hid (¬ 400 < rs2[j].2.length → ∀ x ∈ rs2.take (j + 1), ¬ 400 < x.2.length) := Lib.hid fun h x hx => by
                  rw [List.take_succ_eq_append_getElem hjl] at hx
                  rcases List.mem_append.1 hx with hx | hx
                  · exact Hsh.out x hx
                  · rw [List.mem_singleton] at hx
                    subst hx
                    exact h
                rw [Hl2.out] at hge
                injection hge with hge1 _ hge2
                subst hge1 hge2
                generalize rs2[j].2.length = n1 at *
                clear e1 hgv hgf
                by_cases h400 : 400 < n1
                · have h400' : (n1 : Int) > 400 := by omega
                  have Hr : Hid (RgRes5 l [] 1) := Lib.hid (Hres.out [] 1 cs Hcs.out (.inl ⟨.inr (Hlong.out h400), rfl, rfl⟩))
                  go_wp2_with fail
                  refine bodyPost_ret (v := .tuple #[.slice none 0 0, .int .i64 1]) (by simp [results, Tryz.results17, go_sem, *]) rfl ?_
                  exact ⟨_, [], 1, rfl, RgAt.nil _ _, Hbw.out, Hr.out⟩
                · have h400' : ¬ (n1 : Int) > 400 := by omega
                  have Hs3 := Lib.hid (Hsh2.out h400)
                  go_wp2_with fail
                  go_roundw
                  case rel => exact ⟨j + 1, by omega, by go_num, trivial, Hs3⟩
                  case measure => simp [intOf]; omega
              · obtain rfl : j = i := by omega
                have hjn' : ¬ (j : Int) < (j : Int) := by omega
                have Hnb : Hid (¬ bigR cs) := Lib.hid fun hb => by
                  rcases hb with hb | ⟨r, hr, hlr⟩
                  · rw [Hll.out] at hb; exact h60 hb
                  · obtain ⟨x, hx, rfl⟩ := List.mem_map.1 (Hperm.out.mem_iff.2 hr)
                    have h5 := Hsh.out
                    rw [List.take_of_length_le (by have := Hl2.out; omega)] at h5
                    exact h5 x hx hlr
                have Hr : Hid (RgRes5 l (rs2.map (·.2)) 0) := Lib.hid (Hres.out _ 0 cs Hcs.out (.inr ⟨Hnb.out, rfl, Hperm.out, Hord.out⟩))
                go_wp2_with fail
                refine bodyPost_ret (v := .tuple #[.slice CV j cc, .int .i64 0]) (by simp [results, Tryz.results17, go_sem, *]) rfl ?_
                exact ⟨_, rs2, 0, rfl, Hrg2.out.lower (by have := HB.out; omega), Hbw.out, Hr.out⟩
theorem rings5_any (A : Option Addr) (n c : Nat) (l : List R4) (w : World) (hA : SlR w A n c l) :
    Calls Tryz.prog 17 #[.agg #[.slice A n c]] w (RgPost5 w l) := by
  cases hv : validP l with
  | true => exact rings5_good A n c l w hA hv
  | false => exact rings5_bad A n c l w hA hv
end Go.Proofs.YtpcfhcdbibklcaaGreat
