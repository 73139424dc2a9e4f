/- Plain: who is chosen. -/
import Derived.Test.YtjmbdfoegnfpnaaJ8
import Derived.Test.YtjmbdfoegnfpnaaE6
namespace Go.Proofs.Ytjmbdfoegnfpnaa
open Go.RowKit
set_option linter.unusedVariables false
set_option linter.unusedSimpArgs false

theorem lt_chain {f : Nat → Int} {n : Nat} (h : ∀ i, i + 1 < n → f i < f (i + 1)) : ∀ (i j : Nat), i < j → j < n → f i < f j := by
  intro i j hij hj
  induction j with
  | zero => omega
  | succ j ih =>
    have h1 := h j hj
    rcases Nat.lt_or_ge i j with h2 | h2
    · have := ih h2 (by omega); omega
    · rw [show i = j by omega]; exact h1
def farms (l : List Un) : List Int := l.map (·.fm)
theorem farms_len (l : List Un) : (farms l).length = l.length := by simp [farms]
theorem unitE_zero {q : Pl} {l : List Un} {i : Nat} (hi : i < l.length) (h : unitE q l i = 0) : outP 1 60 l[i].fm = false ∧ (∀ j (hj : j < l.length), i = j + 1 → l[j].fm < l[i].fm) ∧ factB q l[i] = true := by
  unfold unitE at h
  have e : l.getD i ⟨0, []⟩ = l[i] := by simp [List.getD_eq_getElem?_getD, hi]
  rw [e] at h
  split at h
  · omega
  · rename_i h1
    split at h
    · omega
    · rename_i h2
      split at h
      · rename_i h3
        refine ⟨by simpa using h1, fun j hj hij => ?_, h3⟩
        rcases Int.lt_or_le l[j].fm l[i].fm with h4 | h4
        · exact h4
        · exact absurd ⟨by omega, by rw [show i - 1 = j by omega]; simpa [List.getD_eq_getElem?_getD, hj] using h4⟩ h2
      · omega
theorem units_ok {q : Pl} {l : List Un} (h : unitsP q l = 0) : checkP q = 0 ∧ l.length ≤ 60 ∧ (∀ u ∈ l, (1 ≤ u.fm ∧ u.fm ≤ 60) ∧ factB q u = true) ∧ (farms l).Pairwise (· < ·) := by
  unfold unitsP at h
  split at h
  · contradiction
  · rename_i hc
    split at h
    · omega
    · rename_i hl
      have hz := firstE_all h
      refine ⟨by simpa using hc, by omega, ?_, ?_⟩
      · intro u hu
        obtain ⟨i, hi, rfl⟩ := List.getElem_of_mem hu
        obtain ⟨h1, -, h3⟩ := unitE_zero hi (hz i hi)
        simp [outP] at h1
        exact ⟨by omega, h3⟩
      · rw [List.pairwise_iff_getElem]
        intro i j hi hj hij
        simp only [farms, List.getElem_map, List.length_map] at hi hj ⊢
        have := lt_chain (f := fun k => (l.getD k ⟨0, []⟩).fm) (n := l.length) (fun k hk => by
          obtain ⟨-, h2, -⟩ := unitE_zero hk (hz (k + 1) hk)
          have := h2 k (by omega) rfl
          simpa [List.getD_eq_getElem?_getD, hk, show k < l.length by omega] using this) i j hij hj
        simpa [List.getD_eq_getElem?_getD, hi, hj] using this
theorem lt_nodup {l : List Int} (h : l.Pairwise (· < ·)) : l.Nodup := h.imp (fun h => by omega)
theorem badU_none {l : List Int} (h2 : ∀ x ∈ l, 0 ≤ x) (h3 : l.Nodup) : (List.range l.length).any (badU l) = false := by
  rw [List.any_eq_false]
  intro i hi
  rw [List.mem_range] at hi
  have e : l.getD i 0 = l[i] := by simp [List.getD_eq_getElem?_getD, hi]
  unfold badU
  rw [e, decide_eq_false (by have := h2 l[i] (List.getElem_mem hi); omega), decide_eq_false]
  · simp
  · intro hm
    rw [List.mem_take_iff_getElem] at hm
    obtain ⟨j, hj, he⟩ := hm
    have := (List.nodup_iff_pairwise_ne.1 h3)
    rw [List.pairwise_iff_getElem] at this
    exact this j i (by omega) hi (by omega) he
theorem sample_ok {s : Int} {l : List Int} {k : Int} (h1 : l.length ≤ 60) (h2 : ∀ x ∈ l, 0 ≤ x) (h3 : l.Nodup) (h4 : 0 ≤ k) (h5 : k ≤ (l.length : Int)) : sampleP s l k = (srt ((tickS s l).take k.toNat), 0) := by
  unfold sampleP
  rw [if_neg (by omega), badU_none h2 h3, if_neg (by simp), if_neg (by omega)]
theorem tick_perm (s : Int) (l : List Int) : (tickS s l).Perm l := List.mergeSort_perm _ _
theorem srt_perm (l : List Int) : (srt l).Perm l := List.mergeSort_perm _ _
theorem samp_mem {s : Int} {l : List Int} {k : Nat} {x : Int} (h : x ∈ srt ((tickS s l).take k)) : x ∈ l := by
  have := (srt_perm _).mem_iff.1 h
  exact (tick_perm s l).mem_iff.1 (List.mem_of_mem_take this)
theorem samp_nodup {s : Int} {l : List Int} {k : Nat} (h : l.Nodup) : (srt ((tickS s l).take k)).Nodup := by
  rw [(srt_perm _).nodup_iff]
  exact ((tick_perm s l).nodup_iff.2 h).sublist (List.take_sublist _ _)
theorem samp_len {s : Int} {l : List Int} {k : Nat} (h : k ≤ l.length) : (srt ((tickS s l).take k)).length = k := by
  rw [srt_len, List.length_take, (tick_perm s l).length_eq]; omega

/-- Who is drawn at random. -/
def randP (q : Pl) (l : List Un) (seed : Int) : List Int := (sampleP seed (farms l) (upM ((l.length : Int) * q.ra))).1
def strOf (q : Pl) (u : Un) : Nat := q.ls.countP fun y => decide (y ≤ dot q.ws u.fs)
/-- Who is in a stratum, of the others. -/
def inS (q : Pl) (R : List Int) (s : Nat) (u : Un) : Bool := decide (u.fm ∉ R) && decide (strOf q u = s)
def restP (q : Pl) (l : List Un) (R : List Int) (s : Nat) : List Int := farms (l.filter (inS q R s))
def seedK (seed : Int) (s : Nat) : Int := mixI (IntKind.u64.wrap (IntKind.u64.wrap (seed + 1) + (s : Int)))
def drawP (q : Pl) (l : List Un) (seed : Int) (R : List Int) (s : Nat) : List Int := (sampleP (seedK seed s) (restP q l R s) (sizeP q s ((restP q l R s).length : Int))).1
/-- What the map holds when k strata have been drawn. -/
def mapF (q : Pl) (l : List Un) (seed : Int) (R : List Int) : Nat → Int → Option Int
  | 0, x => if x ∈ R then some (-1) else none
  | k + 1, x => if x ∈ drawP q l seed R k then some (k : Int) else mapF q l seed R k x
def picks (f : Int → Option Int) (l : List Int) : List (Int × Int) := l.filterMap fun x => (f x).map fun k => (x, k)
def chooseP (q : Pl) (l : List Un) (seed : Int) : List (Int × Int) × Int :=
  if unitsP q l ≠ 0 then ([], unitsP q l) else (picks (mapF q l seed (randP q l seed) q.ss.length) (farms l), 0)
theorem strOf_lt (q : Pl) (u : Un) : strOf q u ≤ q.ls.length := List.countP_le_length
theorem ra_bd {q : Pl} (hc : checkP q = 0) : 0 ≤ q.ra ∧ q.ra ≤ 1000 := by
  obtain ⟨-, -, -, -, -, -, -, hs, -⟩ := (planB_iff q).1 (checkP_zero hc)
  simp [outP] at hs
  omega
theorem farms_nodup {q : Pl} {l : List Un} (h : unitsP q l = 0) : (farms l).Nodup := lt_nodup (units_ok h).2.2.2
theorem farms_pos {q : Pl} {l : List Un} (h : unitsP q l = 0) : ∀ x ∈ farms l, 1 ≤ x ∧ x ≤ 60 := by
  intro x hx
  simp only [farms, List.mem_map] at hx
  obtain ⟨u, hu, rfl⟩ := hx
  exact ((units_ok h).2.2.1 u hu).1
theorem rand_eq {q : Pl} {l : List Un} (h : unitsP q l = 0) (seed : Int) : sampleP seed (farms l) (upM ((l.length : Int) * q.ra)) = (randP q l seed, 0) := by
  obtain ⟨hc, hl, -, -⟩ := units_ok h
  have hr := ra_bd hc
  have hu := upM_le (n := (l.length : Int)) (r := q.ra) (by omega) hr.1 hr.2
  have := sample_ok (s := seed) (l := farms l) (k := upM ((l.length : Int) * q.ra)) (by rw [farms_len]; exact hl) (fun x hx => by have := farms_pos h x hx; omega) (farms_nodup h) hu.1 (by rw [farms_len]; exact hu.2)
  unfold randP
  rw [this]
theorem rest_sub {q : Pl} {l : List Un} {R : List Int} {s : Nat} : (restP q l R s).Sublist (farms l) := List.filter_sublist.map _
theorem rest_len {q : Pl} {l : List Un} {R : List Int} {s : Nat} : (restP q l R s).length ≤ l.length := by
  have := (rest_sub (q := q) (l := l) (R := R) (s := s)).length_le
  rwa [farms_len] at this
theorem sizeP_bd {q : Pl} (hc : checkP q = 0) {s : Nat} (hs : s < q.ss.length) {n : Int} (hn : 0 ≤ n) : 0 ≤ sizeP q s n ∧ sizeP q s n ≤ n := by
  have h1 := le_bd hc
  unfold sizeP
  omega
theorem draw_eq {q : Pl} {l : List Un} (h : unitsP q l = 0) (seed : Int) (R : List Int) {s : Nat} (hs : s < q.ss.length) :
    sampleP (seedK seed s) (restP q l R s) (sizeP q s ((restP q l R s).length : Int)) = (drawP q l seed R s, 0) := by
  obtain ⟨hc, hl, -, -⟩ := units_ok h
  have hb := sizeP_bd hc hs (n := ((restP q l R s).length : Int)) (by omega)
  have := sample_ok (s := seedK seed s) (l := restP q l R s) (k := sizeP q s ((restP q l R s).length : Int)) (Nat.le_trans rest_len hl) (fun x hx => by have := farms_pos h x (rest_sub.subset hx); omega) ((farms_nodup h).sublist rest_sub) hb.1 hb.2
  unfold drawP
  rw [this]
theorem rand_sub {q : Pl} {l : List Un} (h : unitsP q l = 0) (seed : Int) {x : Int} (hx : x ∈ randP q l seed) : x ∈ farms l := by
  obtain ⟨hc, hl, -, -⟩ := units_ok h
  have hr := ra_bd hc
  have hu := upM_le (n := (l.length : Int)) (r := q.ra) (by omega) hr.1 hr.2
  have := sample_ok (s := seed) (l := farms l) (k := upM ((l.length : Int) * q.ra)) (by rw [farms_len]; exact hl) (fun x hx => by have := farms_pos h x hx; omega) (farms_nodup h) hu.1 (by rw [farms_len]; exact hu.2)
  unfold randP at hx
  rw [this] at hx
  exact samp_mem hx
theorem samp_le (s : Int) (l : List Int) (k : Nat) : (srt ((tickS s l).take k)).length ≤ l.length := by
  rw [srt_len, List.length_take, (tick_perm s l).length_eq]; omega
theorem rand_len {q : Pl} {l : List (Un × UV)} (h : unitsP q (uns l) = 0) (seed : Int) : (randP q (uns l) seed).length ≤ l.length := by
  obtain ⟨hc, hl, -, -⟩ := units_ok h
  have hr := ra_bd hc
  have hu := upM_le (n := ((uns l).length : Int)) (r := q.ra) (by omega) hr.1 hr.2
  have := sample_ok (s := seed) (l := farms (uns l)) (k := upM (((uns l).length : Int) * q.ra)) (by rw [farms_len]; exact hl) (fun x hx => by have := farms_pos h x hx; omega) (farms_nodup h) hu.1 (by rw [farms_len]; exact hu.2)
  unfold randP
  rw [this]
  refine Nat.le_trans (samp_le _ _ _) ?_
  rw [farms_len, uns_len]
  exact Nat.le_refl _
theorem draw_sub {q : Pl} {l : List Un} (h : unitsP q l = 0) (seed : Int) (R : List Int) {s : Nat} (hs : s < q.ss.length) {x : Int} (hx : x ∈ drawP q l seed R s) : x ∈ restP q l R s := by
  obtain ⟨hc, hl, -, -⟩ := units_ok h
  have hb := sizeP_bd hc hs (n := ((restP q l R s).length : Int)) (by omega)
  have := sample_ok (s := seedK seed s) (l := restP q l R s) (k := sizeP q s ((restP q l R s).length : Int)) (Nat.le_trans rest_len hl) (fun x hx => by have := farms_pos h x (rest_sub.subset hx); omega) ((farms_nodup h).sublist rest_sub) hb.1 hb.2
  unfold drawP at hx
  rw [this] at hx
  exact samp_mem hx
theorem draw_len {q : Pl} {l : List Un} (h : unitsP q l = 0) (seed : Int) (R : List Int) {s : Nat} (hs : s < q.ss.length) : (drawP q l seed R s).length ≤ 60 := by
  obtain ⟨hc, hl, -, -⟩ := units_ok h
  have hb := sizeP_bd hc hs (n := ((restP q l R s).length : Int)) (by omega)
  have := sample_ok (s := seedK seed s) (l := restP q l R s) (k := sizeP q s ((restP q l R s).length : Int)) (Nat.le_trans rest_len hl) (fun x hx => by have := farms_pos h x (rest_sub.subset hx); omega) ((farms_nodup h).sublist rest_sub) hb.1 hb.2
  unfold drawP
  rw [this]
  exact Nat.le_trans (samp_le _ _ _) (Nat.le_trans rest_len hl)
/-- The rows of the strata, of the first units. -/
def rowsP (q : Pl) (R : List Int) (m : Nat) (l : List Un) : List (List Int) := (List.range m).map fun s => farms (l.filter (inS q R s))
theorem rowsP_len (q : Pl) (R : List Int) (m : Nat) (l : List Un) : (rowsP q R m l).length = m := by simp [rowsP]
theorem rowsP_at (q : Pl) (R : List Int) (m : Nat) (l : List Un) {s : Nat} (h : s < m) : (rowsP q R m l)[s]'(by rw [rowsP_len]; exact h) = restP q l R s := by simp [rowsP, restP]
theorem rowsP_skip {q : Pl} {R : List Int} {m : Nat} {l : List Un} {u : Un} (h : u.fm ∈ R) : rowsP q R m (l ++ [u]) = rowsP q R m l := by
  unfold rowsP
  refine List.map_congr_left (fun s _ => ?_)
  rw [List.filter_append]
  simp [inS, h]
theorem rowsP_add {q : Pl} {R : List Int} {m : Nat} {l : List Un} {u : Un} (h : u.fm ∉ R) (hs : strOf q u < m) : rowsP q R m (l ++ [u]) = (rowsP q R m l).set (strOf q u) (restP q l R (strOf q u) ++ [u.fm]) := by
  refine List.ext_getElem (by simp [rowsP_len]) (fun s h1 h2 => ?_)
  have hsm : s < m := by rw [rowsP_len] at h1; exact h1
  rw [rowsP_at q R m (l ++ [u]) hsm, List.getElem_set]
  by_cases he : strOf q u = s
  · rw [if_pos he]
    subst he
    unfold restP
    rw [List.filter_append]
    simp [inS, h, farms]
  · rw [if_neg he, rowsP_at q R m l hsm]
    unfold restP
    rw [List.filter_append]
    simp [inS, he]
theorem picks_snoc (f : Int → Option Int) (l : List Int) (x : Int) : picks f (l ++ [x]) = picks f l ++ (match f x with | some k => [(x, k)] | none => []) := by
  unfold picks
  rw [List.filterMap_append]
  cases h : f x <;> simp [h]
theorem picks_len (f : Int → Option Int) (l : List Int) : (picks f l).length ≤ l.length := List.length_filterMap_le _ _
end Go.Proofs.Ytjmbdfoegnfpnaa
