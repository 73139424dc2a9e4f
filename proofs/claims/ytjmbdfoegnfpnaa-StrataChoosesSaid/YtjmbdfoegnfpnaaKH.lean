/- Plain: with greater parts, or a greater least number, nobody is left out who was chosen. -/
import Derived.Test.YtjmbdfoegnfpnaaKQ
namespace Go.Proofs.Ytjmbdfoegnfpnaa
open Go.RowKit
set_option linter.unusedVariables false
set_option linter.unusedSimpArgs false

theorem mem_picks {f : Int → Option Int} {l : List Int} {a : Int × Int} : a ∈ picks f l ↔ a.1 ∈ l ∧ f a.1 = some a.2 := by
  obtain ⟨x, k⟩ := a
  unfold picks
  rw [List.mem_filterMap]
  constructor
  · rintro ⟨y, hy, e⟩
    cases h : f y with
    | none => rw [h] at e; cases e
    | some z =>
      rw [h] at e
      simp at e
      obtain ⟨rfl, rfl⟩ := e
      exact ⟨hy, h⟩
  · rintro ⟨h1, h2⟩
    exact ⟨x, h1, by rw [h2]; rfl⟩
theorem farm_inj {l : List Un} (h : (farms l).Nodup) {u v : Un} (hu : u ∈ l) (hv : v ∈ l) (e : u.fm = v.fm) : u = v := by
  obtain ⟨i, hi, rfl⟩ := List.getElem_of_mem hu
  obtain ⟨j, hj, rfl⟩ := List.getElem_of_mem hv
  have hij : i = j := by
    rw [List.nodup_iff_pairwise_ne, List.pairwise_iff_getElem] at h
    rcases Nat.lt_trichotomy i j with h1 | h1 | h1
    · exact absurd (by simpa [farms] using e) (h i j (by rw [farms_len]; exact hi) (by rw [farms_len]; exact hj) h1)
    · exact h1
    · exact absurd (by simpa [farms] using e.symm) (h j i (by rw [farms_len]; exact hj) (by rw [farms_len]; exact hi) h1)
  subst hij
  rfl
theorem rest_one {q : Pl} {l : List Un} {R : List Int} {s t : Nat} {x : Int} (h : (farms l).Nodup) (h1 : x ∈ restP q l R s) (h2 : x ∈ restP q l R t) : s = t := by
  obtain ⟨u, hu, e1, _, e2⟩ := mem_rest h1
  obtain ⟨v, hv, e3, _, e4⟩ := mem_rest h2
  have := farm_inj h hu hv (e1.trans e3.symm)
  subst this
  omega
theorem samp_mono {s : Int} {l : List Int} {k k' : Nat} (h : k ≤ k') {x : Int} (hx : x ∈ srt ((tickS s l).take k)) : x ∈ srt ((tickS s l).take k') := by
  rw [(srt_perm _).mem_iff] at hx ⊢
  exact (List.take_sublist_take_left h).subset hx
theorem upM_mono {a b : Int} (h : a ≤ b) : upM a ≤ upM b := by rw [upM_eq, upM_eq]; omega
/-- A plan with other parts, and another least number. -/
def moreP (q : Pl) (ss : List Int) (le : Int) : Pl := ⟨q.ws, q.ls, ss, le, q.ra⟩
theorem more_check {q : Pl} {ss : List Int} {le : Int} (hc : checkP q = 0) (h1 : ss.length = q.ss.length) (h2 : ∀ x ∈ ss, 0 ≤ x ∧ x ≤ 1000) (h3 : 0 ≤ le ∧ le ≤ 60) : checkP (moreP q ss le) = 0 := by
  obtain ⟨a, b, c, d, e, f, g, i, j⟩ := (planB_iff q).1 (checkP_zero hc)
  have hr := ra_bd hc
  exact checkP_of (q := moreP q ss le) a (any_out b) c (any_out d) (by show ss.length = q.ls.length + 1; omega) h2 h3 hr j
theorem more_units {q : Pl} {ss : List Int} {le : Int} {l : List Un} (h : unitsP q l = 0) (hc : checkP (moreP q ss le) = 0) : unitsP (moreP q ss le) l = 0 := by
  obtain ⟨_, h1, h2, h3⟩ := units_ok h
  exact unitsP_of hc h1 h2 h3
theorem size_mono {q : Pl} {ss : List Int} {le : Int} (hc : checkP q = 0) (hle : q.le ≤ le) {s : Nat} (hs : q.ss.getD s 0 ≤ ss.getD s 0) {n : Int} (hn : 0 ≤ n) : sizeP q s n ≤ sizeP (moreP q ss le) s n := by
  unfold sizeP
  have h1 : n * q.ss.getD s 0 ≤ n * ss.getD s 0 := Int.mul_le_mul_of_nonneg_left hs hn
  have h2 := upM_mono h1
  show min n (max q.le (upM (n * q.ss.getD s 0))) ≤ min n (max le (upM (n * ss.getD s 0)))
  omega
theorem draw_mono {q : Pl} {ss : List Int} {le : Int} {l : List Un} (h : unitsP q l = 0) (h' : unitsP (moreP q ss le) l = 0) (seed : Int) (R : List Int) (hlen : ss.length = q.ss.length) (hle : q.le ≤ le) {s : Nat} (hs : s < q.ss.length) (hss : q.ss.getD s 0 ≤ ss.getD s 0) {x : Int} (hx : x ∈ drawP q l seed R s) : x ∈ drawP (moreP q ss le) l seed R s := by
  obtain ⟨hc, hl, -, -⟩ := units_ok h
  obtain ⟨hc', -, -, -⟩ := units_ok h'
  have hr : restP (moreP q ss le) l R s = restP q l R s := rfl
  have hb := sizeP_bd hc hs (n := ((restP q l R s).length : Int)) (by omega)
  have hb' := sizeP_bd hc' (s := s) (by show s < ss.length; omega) (n := ((restP q l R s).length : Int)) (by omega)
  have hm := size_mono (ss := ss) hc hle hss (n := ((restP q l R s).length : Int)) (by omega)
  have e1 := sample_ok (s := seedK seed s) (l := restP q l R s) (k := sizeP q s ((restP q l R s).length : Int)) (Nat.le_trans rest_len hl) (fun x hx => by have := farms_pos h x (rest_sub.subset hx); omega) ((farms_nodup h).sublist rest_sub) hb.1 hb.2
  have e2 := sample_ok (s := seedK seed s) (l := restP q l R s) (k := sizeP (moreP q ss le) s ((restP q l R s).length : Int)) (Nat.le_trans rest_len hl) (fun x hx => by have := farms_pos h x (rest_sub.subset hx); omega) ((farms_nodup h).sublist rest_sub) hb'.1 hb'.2
  unfold drawP at hx ⊢
  rw [hr]
  rw [e1] at hx
  rw [e2]
  exact samp_mono (by omega) hx
theorem mapF_src {q : Pl} {l : List Un} (h : unitsP q l = 0) (seed : Int) (R : List Int) (x v : Int) : ∀ k, k ≤ q.ss.length → mapF q l seed R k x = some v → x ∈ R ∨ ∃ s, s < k ∧ x ∈ restP q l R s
  | 0, _, e => by
    unfold mapF at e
    by_cases hx : x ∈ R
    · exact .inl hx
    · rw [if_neg hx] at e; cases e
  | k + 1, hk, e => by
    unfold mapF at e
    by_cases hx : x ∈ drawP q l seed R k
    · exact .inr ⟨k, by omega, draw_sub h seed R (by omega) hx⟩
    · rw [if_neg hx] at e
      rcases mapF_src h seed R x v k (by omega) e with h1 | ⟨s, hs, h1⟩
      · exact .inl h1
      · exact .inr ⟨s, by omega, h1⟩
theorem mapF_more {q : Pl} {ss : List Int} {le : Int} {l : List Un} (h : unitsP q l = 0) (h' : unitsP (moreP q ss le) l = 0) (seed : Int) (R : List Int) (hlen : ss.length = q.ss.length) (hle : q.le ≤ le) (hss : ∀ s, s < q.ss.length → q.ss.getD s 0 ≤ ss.getD s 0) (x v : Int) : ∀ k, k ≤ q.ss.length → mapF q l seed R k x = some v → mapF (moreP q ss le) l seed R k x = some v
  | 0, _, e => e
  | k + 1, hk, e => by
    unfold mapF at e ⊢
    by_cases hx : x ∈ drawP q l seed R k
    · rw [if_pos hx] at e
      rw [if_pos (draw_mono h h' seed R hlen hle (by omega) (hss k (by omega)) hx)]
      exact e
    · rw [if_neg hx] at e
      rw [if_neg]
      · exact mapF_more h h' seed R hlen hle hss x v k (by omega) e
      · intro hx2
        have h2 : x ∈ restP q l R k := draw_sub (q := moreP q ss le) h' seed R (by show k < ss.length; omega) hx2
        rcases mapF_src h seed R x v k (by omega) e with h3 | ⟨s, hs, h3⟩
        · obtain ⟨_, _, _, h4, _⟩ := mem_rest h2
          exact h4 h3
        · have := rest_one (farms_nodup h) h2 h3
          omega
/-- Nobody is left out. -/
theorem grows_sub {q : Pl} {ss : List Int} {le : Int} {l : List Un} (h : unitsP q l = 0) (h' : unitsP (moreP q ss le) l = 0) (seed : Int) (hlen : ss.length = q.ss.length) (hle : q.le ≤ le) (hss : ∀ s, s < q.ss.length → q.ss.getD s 0 ≤ ss.getD s 0) :
    ∀ a ∈ (chooseP q l seed).1, a ∈ (chooseP (moreP q ss le) l seed).1 := by
  intro a ha
  unfold chooseP at ha ⊢
  rw [if_neg (by rw [h]; simp)] at ha
  rw [if_neg (by rw [h']; simp)]
  have hr : randP (moreP q ss le) l seed = randP q l seed := rfl
  rw [hr]
  dsimp only at ha ⊢
  rw [mem_picks] at ha ⊢
  refine ⟨ha.1, ?_⟩
  show mapF (moreP q ss le) l seed (randP q l seed) ss.length a.1 = some a.2
  rw [hlen]
  exact mapF_more h h' seed _ hlen hle hss _ _ _ (Nat.le_refl _) ha.2
end Go.Proofs.Ytjmbdfoegnfpnaa
