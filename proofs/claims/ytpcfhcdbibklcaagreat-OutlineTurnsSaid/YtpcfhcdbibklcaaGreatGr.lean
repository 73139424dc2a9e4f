/- Regions, plain: how the reference's Combine keeps the last band apart. -/
import Derived.Test.YtpcfhcdbibklcaaGreatGq
namespace Go.Proofs.YtpcfhcdbibklcaaGreat
set_option linter.unusedVariables false

/-- The edges of spans. -/
def lr (l : List R4) : List (Int × Int) := l.map fun q => (q.l, q.r)
/-- The rectangles of a band. -/
def bandR (y y' : Int) (v : List (Sg Unit)) : List R4 := v.map fun s => ⟨s.1, y, s.2.1, y'⟩
theorem flat_one (B : Sg (List (Sg Unit))) : flat [B] = bandR B.1 B.2.1 B.2.2 := by simp [flat, bandR]
theorem flat_app (a b : List (Sg (List (Sg Unit)))) : flat (a ++ b) = flat a ++ flat b := by simp [flat]
theorem lr_band (y y' : Int) (v : List (Sg Unit)) : lr (bandR y y' v) = v.map fun s => (s.1, s.2.1) := by simp [lr, bandR]
theorem lr_inj {y y' z z' : Int} : ∀ {v u : List (Sg Unit)}, lr (bandR y y' v) = lr (bandR z z' u) → v = u
  | [], [], _ => rfl
  | [], s :: t, h => by simp [lr, bandR] at h
  | s :: t, [], h => by simp [lr, bandR] at h
  | s :: t, s' :: t', h => by
    have ⟨h1, h2⟩ : ((s.1 = s'.1 ∧ s.2.1 = s'.2.1) ∧ lr (bandR y y' t) = lr (bandR z z' t')) := by simpa [lr, bandR] using h
    rw [lr_inj h2, show s = s' from Prod.ext h1.1 (Prod.ext h1.2 rfl)]
theorem nz_cons {V : Type} {v : List V} (h : v ≠ []) : nz v = some v := by
  unfold nz
  rw [if_neg]
  intro h1
  exact h (List.isEmpty_iff.1 h1)

/-- Bands up to row y, as rectangles: those before the last one, and the last one if it touches row y. -/
structure OutSt (acc : List (Sg (List (Sg Unit)))) (y : Int) (out last : List R4) : Prop where
  le : ∀ s ∈ acc, s.2.1 ≤ y
  st : (last = [] ∧ out = flat acc ∧ ∀ s, acc.getLast? = some s → s.2.1 ≠ y) ∨ ∃ acc0 B, acc = acc0 ++ [B] ∧ out = flat acc0 ∧ last = flat [B] ∧ B.2.1 = y ∧ B.2.2 ≠ []
theorem OutSt.start (y : Int) : OutSt [] y [] [] := ⟨by simp, .inl ⟨rfl, rfl, by simp⟩⟩
theorem OutSt.done {acc : List (Sg (List (Sg Unit)))} {y : Int} {out last : List R4} (h : OutSt acc y out last) : out ++ last = flat acc := by
  rcases h.st with ⟨rfl, rfl, _⟩ | ⟨acc0, B, rfl, rfl, rfl, _, _⟩
  · simp
  · rw [flat_app]
theorem OutSt.high {acc : List (Sg (List (Sg Unit)))} {y : Int} {out last : List R4} (h : OutSt acc y out last) : ∀ q ∈ last, q.t = y := by
  rcases h.st with ⟨rfl, rfl, _⟩ | ⟨acc0, B, rfl, rfl, rfl, h1, _⟩
  · simp
  · rw [flat_one]
    intro q hq
    simp only [bandR, List.mem_map] at hq
    obtain ⟨s, _, rfl⟩ := hq
    exact h1
theorem OutSt.ext {acc : List (Sg (List (Sg Unit)))} {y y' : Int} {out last : List R4} {v : List (Sg Unit)} (h : OutSt acc y out last) (hl : last ≠ []) (hlr : lr last = lr (bandR y y' v)) (hy : y < y') : OutSt (stepO acc y y' (nz v)) y' out (last.map fun q => ⟨q.l, q.b, q.r, y'⟩) := by
  rcases h.st with ⟨rfl, _⟩ | ⟨acc0, B, rfl, rfl, rfl, h1, h2⟩
  · exact absurd rfl hl
  · rw [flat_one] at hlr
    have hv := lr_inj hlr
    subst hv
    have e1 : stepO (acc0 ++ [B]) y y' (nz B.2.2) = acc0 ++ [(B.1, y', B.2.2)] := by rw [nz_cons h2]; simp [stepO, h1]
    rw [e1]
    refine ⟨fun s hs => ?_, .inr ⟨acc0, _, rfl, rfl, ?_, rfl, h2⟩⟩
    · rcases List.mem_append.1 hs with hs | hs
      · have := h.le s (by simp [hs]); omega
      · simp at hs; subst hs; exact Int.le_refl _
    · rw [flat_one, flat_one]; simp [bandR]
theorem OutSt.push {acc : List (Sg (List (Sg Unit)))} {y y' : Int} {out last : List R4} {v : List (Sg Unit)} (h : OutSt acc y out last) (hn : ¬ (last ≠ [] ∧ lr last = lr (bandR y y' v))) (hy : y < y') : OutSt (stepO acc y y' (nz v)) y' (out ++ last) (bandR y y' v) := by
  rw [h.done]
  by_cases hv : v = []
  · subst hv
    refine ⟨fun s hs => by have := h.le s hs; omega, .inl ⟨rfl, rfl, fun s hs => ?_⟩⟩
    have := h.le s (List.mem_of_getLast? hs)
    omega
  · have hnew : stepO acc y y' (nz v) = acc ++ [(y, y', v)] := by
      rw [nz_cons hv]
      cases hs : acc.getLast? with
      | none =>
        have : acc = [] := List.getLast?_eq_none_iff.1 hs
        subst this; rfl
      | some s =>
        simp only [stepO, hs]
        rw [if_neg]
        rintro ⟨h1, h2⟩
        rcases h.st with ⟨_, _, h3⟩ | ⟨acc0, B, rfl, rfl, rfl, h3, h4⟩
        · exact h3 s hs h1
        · have e : B = s := by simpa using hs
          subst e
          refine hn ⟨?_, ?_⟩
          · rw [flat_one]; intro h5; exact h4 (by simpa [bandR] using h5)
          · rw [flat_one, lr_band, lr_band, h2]
    rw [hnew]
    refine ⟨fun s hs => ?_, .inr ⟨acc, _, rfl, rfl, by rw [flat_one], rfl, hv⟩⟩
    rcases List.mem_append.1 hs with hs | hs
    · have := h.le s hs; omega
    · simp at hs; subst hs; exact Int.le_refl _

theorem foldC_drop {V : Type} [DecidableEq V] (g : Int → Option V) (l : List Int) (i : Nat) (h : i + 1 < l.length) (acc : List (Sg V)) : foldC g (l.drop i) acc = foldC g (l.drop (i + 1)) (stepO acc l[i] l[i + 1] (g l[i])) := by
  rw [List.drop_eq_getElem_cons (show i < l.length by omega), List.drop_eq_getElem_cons h]
  rfl
theorem foldC_end {V : Type} [DecidableEq V] (g : Int → Option V) (l : List Int) (i : Nat) (h : l.length ≤ i + 1) (acc : List (Sg V)) : foldC g (l.drop i) acc = acc := by
  rcases Nat.lt_or_ge i l.length with h1 | h1
  · rw [List.drop_eq_getElem_cons h1, List.drop_eq_nil_of_le (by omega)]; rfl
  · rw [List.drop_eq_nil_of_le h1]; rfl
/-- A span more, or a longer one, in the rectangles of a band. -/
theorem step_band_ext (y y' lo hi : Int) (acc : List (Sg Unit)) (s : Sg Unit) (h : s.2.1 = lo) : stepO (acc ++ [s]) lo hi (some ()) = acc ++ [(s.1, hi, ())] := by
  simp [stepO, h]
theorem step_band_new (lo hi : Int) (acc : List (Sg Unit)) (h : ∀ s, acc.getLast? = some s → s.2.1 ≠ lo) : stepO acc lo hi (some ()) = acc ++ [(lo, hi, ())] := by
  unfold stepO
  cases hs : acc.getLast? with
  | none =>
    have : acc = [] := List.getLast?_eq_none_iff.1 hs
    subst this; simp
  | some s =>
    simp only
    rw [if_neg (fun h1 => h s hs h1.1)]
theorem bandR_snoc (y y' : Int) (v : List (Sg Unit)) (s : Sg Unit) : bandR y y' (v ++ [s]) = bandR y y' v ++ [⟨s.1, y, s.2.1, y'⟩] := by simp [bandR]
theorem bandR_len (y y' : Int) (v : List (Sg Unit)) : (bandR y y' v).length = v.length := by simp [bandR]
/-- The edges of rectangles, put one by one. -/
def xsOf (l : List R4) : List Int := (xEdges l).foldl putL []
def ysOf (l : List R4) : List Int := (yEdges l).foldl putL []
theorem xsOf_snoc (l : List R4) (q : R4) : xsOf (l ++ [q]) = putL (putL (xsOf l) q.l) q.r := by simp [xsOf, xEdges, List.foldl_append]
theorem ysOf_snoc (l : List R4) (q : R4) : ysOf (l ++ [q]) = putL (putL (ysOf l) q.b) q.t := by simp [ysOf, yEdges, List.foldl_append]
theorem putL_ne (l : List Int) (v : Int) : putL l v ≠ [] := by
  intro h
  have := (putL_mem l v v).2 (.inl rfl)
  rw [h] at this
  cases this
theorem putL_len (l : List Int) (v : Int) : (putL l v).length ≤ l.length + 1 := by
  induction l with
  | nil => simp [putL]
  | cons x t ih =>
    unfold putL
    split
    · simp; omega
    · split <;> simp
theorem puts_len (es l : List Int) : (es.foldl putL l).length ≤ l.length + es.length := by
  induction es generalizing l with
  | nil => simp
  | cons e es ih => have h1 := ih (putL l e); have h2 := putL_len l e; simp at h1 ⊢; omega
theorem xEdges_len (l : List R4) : (xEdges l).length = 2 * l.length := by
  induction l with
  | nil => rfl
  | cons q t ih => simp [xEdges] at ih ⊢; omega
theorem xsOf_len (l : List R4) : (xsOf l).length ≤ 2 * l.length := by have := puts_len (xEdges l) []; rw [xEdges_len] at this; simpa [xsOf] using this
theorem ysOf_len (l : List R4) : (ysOf l).length ≤ 2 * l.length := by have := puts_len (yEdges l) []; rw [yEdges_len] at this; simpa [ysOf] using this
theorem xsOf_lt (l : List R4) : (xsOf l).Pairwise (· < ·) := puts_lt _ _ List.Pairwise.nil
theorem ysOf_lt (l : List R4) : (ysOf l).Pairwise (· < ·) := puts_lt _ _ List.Pairwise.nil
theorem lt_next {l : List Int} (h : l.Pairwise (· < ·)) (i : Nat) (hi : i + 1 < l.length) : l[i] < l[i + 1] := List.pairwise_iff_getElem.1 h i (i + 1) (by omega) hi (by omega)
end Go.Proofs.YtpcfhcdbibklcaaGreat
