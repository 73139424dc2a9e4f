/- Plain: no farm is chosen twice, each in its stratum, and how many at least. -/
import Derived.Test.YtjmbdfoegnfpnaaKH
namespace Go.Proofs.Ytjmbdfoegnfpnaa
open Go.RowKit
set_option linter.unusedVariables false
set_option linter.unusedSimpArgs false

theorem picks_split (f : Int → Option Int) (l : List Int) (t : Nat) : picks f l = picks f (l.take t) ++ picks f (l.drop t) := by
  unfold picks
  rw [← List.filterMap_append, List.take_append_drop]
theorem picks_cons (f : Int → Option Int) (x : Int) (r : List Int) : picks f (x :: r) = (match f x with | some k => [(x, k)] | none => []) ++ picks f r := by
  unfold picks
  cases h : f x <;> simp [h]
theorem picks_hit {f : Int → Option Int} {l : List Int} {t : Nat} (ht : t < l.length) {k : Int} (h : f l[t] = some k) : (picks f l)[(picks f (l.take t)).length]? = some (l[t], k) := by
  rw [picks_split f l t, List.getElem?_append_right (Nat.le_refl _), Nat.sub_self, List.drop_eq_getElem_cons ht, picks_cons, h]
  rfl
theorem picks_miss {f : Int → Option Int} {l : List Int} (hn : l.Nodup) {t : Nat} (ht : t < l.length) (h : f l[t] = none) {y : Int × Int} (hy : (picks f l)[(picks f (l.take t)).length]? = some y) : y.1 ≠ l[t] := by
  rw [picks_split f l t, List.getElem?_append_right (Nat.le_refl _), Nat.sub_self, List.drop_eq_getElem_cons ht, picks_cons, h] at hy
  have h1 : y ∈ picks f (l.drop (t + 1)) := List.mem_of_getElem? hy
  rw [mem_picks] at h1
  intro e
  rw [e] at h1
  have h2 : (l.take (t + 1) ++ l.drop (t + 1)).Nodup := by rwa [List.take_append_drop]
  rw [List.nodup_append] at h2
  exact h2.2.2 l[t] (by rw [List.take_succ_eq_append_getElem ht]; exact List.mem_append_right _ (List.mem_singleton.2 rfl)) l[t] h1.1 rfl
theorem perm_filter {l d : List Int} (hl : l.Nodup) (hd : d.Nodup) (hs : ∀ x ∈ d, x ∈ l) : (l.filter fun x => decide (x ∈ d)).length = d.length := by
  refine List.Perm.length_eq ((List.perm_ext_iff_of_nodup (hl.filter _) hd).2 (fun x => ?_))
  simp only [List.mem_filter, decide_eq_true_eq]
  exact ⟨fun h => h.2, fun h => ⟨hs x h, h⟩⟩
theorem draw_nodup {q : Pl} {l : List Un} (h : unitsP q l = 0) (seed : Int) (R : List Int) {s : Nat} (hs : s < q.ss.length) : (drawP q l seed R s).Nodup ∧ ((drawP q l seed R s).length : Int) = sizeP q s ((restP q l R s).length : Int) := by
  obtain ⟨hc, hl, -, -⟩ := units_ok h
  have hb := sizeP_bd hc hs (n := ((restP q l R s).length : Int)) (by omega)
  have := sample_ok (s := seedK seed s) (l := restP q l R s) (k := sizeP q s ((restP q l R s).length : Int)) (Nat.le_trans rest_len hl) (fun x hx => by have := farms_pos h x (rest_sub.subset hx); omega) ((farms_nodup h).sublist rest_sub) hb.1 hb.2
  unfold drawP
  rw [this]
  refine ⟨samp_nodup ((farms_nodup h).sublist rest_sub), ?_⟩
  rw [samp_len (by omega)]
  omega
theorem rand_nodup {q : Pl} {l : List Un} (h : unitsP q l = 0) (seed : Int) : (randP q l seed).Nodup ∧ ((randP q l seed).length : Int) = upM ((l.length : Int) * q.ra) := by
  obtain ⟨hc, hl, -, -⟩ := units_ok h
  have hr := ra_bd hc
  have hu := upM_le (n := (l.length : Int)) (r := q.ra) (by omega) hr.1 hr.2
  have := sample_ok (s := seed) (l := farms l) (k := upM ((l.length : Int) * q.ra)) (by rw [farms_len]; exact hl) (fun x hx => by have := farms_pos h x hx; omega) (farms_nodup h) hu.1 (by rw [farms_len]; exact hu.2)
  unfold randP
  rw [this]
  refine ⟨samp_nodup (farms_nodup h), ?_⟩
  rw [samp_len (by rw [farms_len]; omega)]
  omega
/-- Of those seen, in each stratum, how many are drawn. -/
def chP (q : Pl) (R : List Int) (D : Nat → List Int) (m : Nat) (l : List Un) : List Int := (List.range m).map fun s => (((restP q l R s).filter fun x => decide (x ∈ D s)).length : Int)
theorem chP_len (q : Pl) (R : List Int) (D : Nat → List Int) (m : Nat) (l : List Un) : (chP q R D m l).length = m := by simp [chP]
theorem chP_nil (q : Pl) (R : List Int) (D : Nat → List Int) (m : Nat) : chP q R D m [] = List.replicate m 0 := by
  unfold chP
  refine List.ext_getElem (by simp) (fun i h1 h2 => by simp [restP, farms])
theorem chP_at (q : Pl) (R : List Int) (D : Nat → List Int) (m : Nat) (l : List Un) {s : Nat} (h : s < m) : (chP q R D m l)[s]? = some (((restP q l R s).filter fun x => decide (x ∈ D s)).length : Int) := by simp [chP, h]
theorem rest_skip {q : Pl} {R : List Int} {l : List Un} {u : Un} (s : Nat) (h : u.fm ∈ R ∨ strOf q u ≠ s) : restP q (l ++ [u]) R s = restP q l R s := by
  unfold restP
  rw [List.filter_append]
  have : inS q R s u = false := by
    unfold inS
    rcases h with h | h
    · simp [h]
    · simp [h]
  simp [this]
theorem rest_add {q : Pl} {R : List Int} {l : List Un} {u : Un} (h : u.fm ∉ R) : restP q (l ++ [u]) R (strOf q u) = restP q l R (strOf q u) ++ [u.fm] := by
  unfold restP
  rw [List.filter_append]
  simp [inS, h, farms]
theorem chP_skip {q : Pl} {R : List Int} {D : Nat → List Int} {m : Nat} {l : List Un} {u : Un} (h : u.fm ∈ R ∨ u.fm ∉ D (strOf q u)) : chP q R D m (l ++ [u]) = chP q R D m l := by
  unfold chP
  refine List.map_congr_left (fun s _ => ?_)
  by_cases h1 : u.fm ∈ R ∨ strOf q u ≠ s
  · rw [rest_skip s h1]
  · obtain ⟨h2, h3⟩ := not_or.1 h1
    have h3 : strOf q u = s := Decidable.not_not.1 h3
    subst h3
    rw [rest_add h2, List.filter_append]
    have : u.fm ∉ D (strOf q u) := h.resolve_left h2
    simp [this]
theorem chP_add {q : Pl} {R : List Int} {D : Nat → List Int} {m : Nat} {l : List Un} {u : Un} (h : u.fm ∉ R) (h2 : u.fm ∈ D (strOf q u)) (hs : strOf q u < m) : chP q R D m (l ++ [u]) = (chP q R D m l).set (strOf q u) ((((restP q l R (strOf q u)).filter fun x => decide (x ∈ D (strOf q u))).length : Int) + 1) := by
  refine List.ext_getElem (by simp [chP_len]) (fun s h3 h4 => ?_)
  have hsm : s < m := by rw [chP_len] at h3; exact h3
  rw [List.getElem_set]
  by_cases he : strOf q u = s
  · rw [if_pos he]
    subst he
    simp only [chP, List.getElem_map, List.getElem_range]
    rw [rest_add h, List.filter_append]
    simp [h2]
  · rw [if_neg he]
    simp only [chP, List.getElem_map, List.getElem_range]
    rw [rest_skip s (.inr he)]
/-- Where a chosen farm has been drawn. -/
theorem mapF_in {q : Pl} {l : List Un} (seed : Int) (R : List Int) (x v : Int) : ∀ k, mapF q l seed R k x = some v → (v = -1 ∧ x ∈ R) ∨ ∃ s, s < k ∧ v = (s : Int) ∧ x ∈ drawP q l seed R s
  | 0, e => by
    unfold mapF at e
    by_cases hx : x ∈ R
    · rw [if_pos hx] at e
      injection e with e
      exact .inl ⟨e.symm, hx⟩
    · rw [if_neg hx] at e; cases e
  | k + 1, e => by
    unfold mapF at e
    by_cases hx : x ∈ drawP q l seed R k
    · rw [if_pos hx] at e
      injection e with e
      exact .inr ⟨k, by omega, e.symm, hx⟩
    · rw [if_neg hx] at e
      rcases mapF_in seed R x v k e with h1 | ⟨s, hs, h1⟩
      · exact .inl h1
      · exact .inr ⟨s, by omega, h1⟩
theorem mapF_none {q : Pl} {l : List Un} (seed : Int) (R : List Int) (x : Int) : ∀ k, mapF q l seed R k x = none → x ∉ R ∧ ∀ s, s < k → x ∉ drawP q l seed R s
  | 0, e => by
    unfold mapF at e
    by_cases hx : x ∈ R
    · rw [if_pos hx] at e; cases e
    · exact ⟨hx, fun s hs => by omega⟩
  | k + 1, e => by
    unfold mapF at e
    by_cases hx : x ∈ drawP q l seed R k
    · rw [if_pos hx] at e; cases e
    · rw [if_neg hx] at e
      obtain ⟨h1, h2⟩ := mapF_none seed R x k e
      refine ⟨h1, fun s hs => ?_⟩
      rcases Nat.lt_or_ge s k with h3 | h3
      · exact h2 s h3
      · rw [show s = k by omega]; exact hx
/-- A unit that is chosen, and not at random, is drawn in its stratum. -/
theorem chosen_str {q : Pl} {l : List Un} (h : unitsP q l = 0) (seed : Int) (R : List Int) {u : Un} (hu : u ∈ l) {v : Int} (hv : mapF q l seed R q.ss.length u.fm = some v) (hne : v ≠ -1) : v = (strOf q u : Int) ∧ u.fm ∈ drawP q l seed R (strOf q u) ∧ u.fm ∉ R := by
  rcases mapF_in seed R u.fm v _ hv with ⟨h1, _⟩ | ⟨s, hs, rfl, hd⟩
  · exact absurd h1 hne
  · obtain ⟨u', hu', e, hR, e2⟩ := mem_rest (draw_sub h seed R hs hd)
    have := farm_inj (farms_nodup h) hu' hu e
    subst this
    subst e2
    exact ⟨rfl, hd, hR⟩
/-- Where the part is all, nobody is left. -/
theorem all_drawn {q : Pl} {l : List Un} (h : unitsP q l = 0) (seed : Int) (R : List Int) {u : Un} (hu : u ∈ l) (hR : u.fm ∉ R) (hs : strOf q u < q.ss.length) (h1 : q.ss[strOf q u] = 1000) : u.fm ∈ drawP q l seed R (strOf q u) := by
  obtain ⟨hd, hl⟩ := draw_nodup h seed R hs
  have hn : 0 ≤ ((restP q l R (strOf q u)).length : Int) := by omega
  have hz : sizeP q (strOf q u) ((restP q l R (strOf q u)).length : Int) = ((restP q l R (strOf q u)).length : Int) := by
    unfold sizeP
    have e : q.ss.getD (strOf q u) 0 = 1000 := by rw [List.getD_eq_getElem?_getD, List.getElem?_eq_getElem hs, h1]; rfl
    rw [e, upM_eq]
    omega
  rw [hz] at hl
  have hmem : u.fm ∈ restP q l R (strOf q u) := by
    simp only [restP, farms, List.mem_map, List.mem_filter, inS, Bool.and_eq_true, decide_eq_true_eq]
    exact ⟨u, ⟨hu, hR, rfl⟩, rfl⟩
  have hp := perm_filter ((farms_nodup h).sublist rest_sub) hd (fun x hx => draw_sub h seed R hs hx)
  have := List.length_filter_eq_length_iff.1 (hp.trans (by omega)) u.fm hmem
  simpa using this
theorem once_rand {q : Pl} {l : List Un} (h : unitsP q l = 0) (seed : Int) : (((farms l).filter fun x => decide (x ∈ randP q l seed)).length : Int) * 1000 ≥ q.ra * (l.length : Int) := by
  obtain ⟨h1, h2⟩ := rand_nodup h seed
  rw [perm_filter (farms_nodup h) h1 (fun x hx => rand_sub h seed hx), h2, upM_eq, Int.mul_comm q.ra]
  omega
theorem once_str {q : Pl} {l : List Un} (h : unitsP q l = 0) (seed : Int) (R : List Int) {s : Nat} (hs : s < q.ss.length) :
    min ((restP q l R s).length : Int) q.le ≤ (((restP q l R s).filter fun x => decide (x ∈ drawP q l seed R s)).length : Int) ∧ q.ss[s] * ((restP q l R s).length : Int) ≤ (((restP q l R s).filter fun x => decide (x ∈ drawP q l seed R s)).length : Int) * 1000 := by
  obtain ⟨h1, h2⟩ := draw_nodup h seed R hs
  obtain ⟨hc, -, -, -⟩ := units_ok h
  rw [perm_filter ((farms_nodup h).sublist rest_sub) h1 (fun x hx => draw_sub h seed R hs hx), h2]
  have hb := ss_bd hc hs
  have hn : 0 ≤ ((restP q l R s).length : Int) := by omega
  generalize ((restP q l R s).length : Int) = n at *
  unfold sizeP
  have e : q.ss.getD s 0 = q.ss[s] := by simp [List.getD_eq_getElem?_getD, hs]
  rw [e]
  have h3 : n * q.ss[s] ≤ n * 1000 := Int.mul_le_mul_of_nonneg_left hb.2 hn
  rw [Int.mul_comm q.ss[s] n]
  generalize n * q.ss[s] = z at *
  rw [upM_eq]
  omega
end Go.Proofs.Ytjmbdfoegnfpnaa
