/- Plain: sets of regions as numbers; the pieces of the plane between the borders of several regions; faces (overlay). -/
/- Plain: the faces of regions within a side: what each one has, that they are few and small. -/
/- Plain: bits of ints that are not negative; the laws of faces (squares, turns, a further region). -/
/- Plain: the laws of faces: the order of the regions only turns the bits; a further region only divides faces. -/
import Derived.Test.YtabcadpfhachoaaGreatGt
namespace Go.Proofs.YtabcadpfhachoaaGreat
open Go.RowKit
set_option linter.unusedVariables false
set_option linter.unusedSimpArgs false

/-- The number whose bits these are. -/
def maskL : List Bool → Nat
  | [] => 0
  | b :: t => b.toNat + 2 * maskL t
theorem maskL_lt : ∀ l : List Bool, maskL l < 2 ^ l.length
  | [] => by simp [maskL]
  | b :: t => by
    have := maskL_lt t
    rw [maskL, List.length_cons, Nat.pow_succ]
    cases b <;> simp <;> omega
theorem maskL_snoc (b : Bool) : ∀ l : List Bool, maskL (l ++ [b]) = maskL l + b.toNat * 2 ^ l.length
  | [] => by simp [maskL]
  | c :: t => by
    rw [List.cons_append, maskL, maskL, maskL_snoc b t, List.length_cons, Nat.pow_succ, Nat.mul_add]
    rw [show b.toNat * (2 ^ t.length * 2) = 2 * (b.toNat * 2 ^ t.length) by rw [Nat.mul_comm (2 ^ t.length) 2, Nat.mul_left_comm]]
    omega
theorem maskL_zero : ∀ l : List Bool, maskL l = 0 ↔ ∀ b ∈ l, b = false
  | [] => by simp [maskL]
  | c :: t => by
    have := maskL_zero t
    rw [maskL]
    cases c
    · rw [show (false.toNat + 2 * maskL t = 0) = (maskL t = 0) from by simp; omega, this]; simp
    · simp
theorem maskL_inj : ∀ l m : List Bool, l.length = m.length → maskL l = maskL m → l = m
  | [], [], _, _ => rfl
  | [], _ :: _, h, _ => by simp at h
  | _ :: _, [], h, _ => by simp at h
  | a :: s, b :: t, h, he => by
    rw [maskL, maskL] at he
    have h1 : a = b := by cases a <;> cases b <;> simp at he ⊢ <;> omega
    subst h1
    rw [maskL_inj s t (by simpa using h) (by omega)]
theorem maskL_bit : ∀ (l : List Bool) (i : Nat), (maskL l).testBit i = l.getD i false
  | [], i => by simp [maskL]
  | a :: t, 0 => by
    rw [maskL, Nat.testBit_zero]
    cases a <;> simp <;> omega
  | a :: t, i + 1 => by
    rw [maskL, Nat.testBit_succ, show (a.toNat + 2 * maskL t) / 2 = maskL t by cases a <;> simp <;> omega, maskL_bit t i]
    simp
/-- Which regions have a square. -/
def setAt (m : List (List R4)) (x y : Int) : Nat := maskL (m.map fun a => inL a x y)
def endsP (rows : List (List (Sg Unit))) : List Int := asc (rows.flatMap fun r => r.flatMap fun s => [s.1, s.2.1])
def withinSP (rows : List (List (Sg Unit))) (x : Int) : Nat := maskL (rows.map fun r => inR r x)
def onePc (rows : List (List (Sg Unit))) (lo hi : Int) (E : List Int) (k : Nat) : List (Nat × R4) :=
  if withinSP rows (E.getD k 0) = 0 then [] else [(withinSP rows (E.getD k 0), ⟨E.getD k 0, lo, E.getD (k + 1) 0, hi⟩)]
def rowPcs (rows : List (List (Sg Unit))) (lo hi : Int) : List (Nat × R4) := (List.range ((endsP rows).length - 1)).flatMap (onePc rows lo hi (endsP rows))
def bandPcs (m : List (List R4)) (C : List Int) (i : Nat) : List (Nat × R4) := rowPcs (m.map fun a => rowP a (C.getD i 0)) (C.getD i 0) (C.getD (i + 1) 0)
def piecesP (m : List (List R4)) : List (Nat × R4) := (List.range ((cutsP m.flatten).length - 1)).flatMap (bandPcs m (cutsP m.flatten))

/-- Between two neighbours of an ascending list. -/
theorem asc_between {C : List Int} (hp : C.Pairwise (· < ·)) {i : Nat} (hi : i + 1 < C.length) {x : Int} (h1 : C.getD i 0 ≤ x) (h2 : x < C.getD (i + 1) 0) : ∀ k ∈ C, k ≤ C.getD i 0 ∨ x < k := by
  intro k hk
  obtain ⟨j, hj, rfl⟩ := List.getElem_of_mem hk
  have e1 : C.getD i 0 = C[i] := by simp [List.getD, List.getElem?_eq_getElem (show i < C.length by omega)]
  have e2 : C.getD (i + 1) 0 = C[i + 1] := by simp [List.getD, List.getElem?_eq_getElem hi]
  rw [e1] at h1 ⊢
  rw [e2] at h2
  rcases Nat.lt_trichotomy j i with h | h | h
  · have := List.pairwise_iff_getElem.1 hp j i hj (by omega) h; omega
  · subst h; left; omega
  · rcases Nat.lt_or_ge j (i + 2) with h3 | h3
    · obtain rfl : j = i + 1 := by omega
      right; exact h2
    · have := List.pairwise_iff_getElem.1 hp (i + 1) j hi hj (by omega); right; omega
theorem getD_mem {C : List Int} {i : Nat} (h : i < C.length) : C.getD i 0 ∈ C := by
  simp [List.getD, List.getElem?_eq_getElem h]
theorem getD_lt {C : List Int} (hp : C.Pairwise (· < ·)) {i : Nat} (h : i + 1 < C.length) : C.getD i 0 < C.getD (i + 1) 0 := by
  have e1 : C.getD i 0 = C[i] := by simp [List.getD, List.getElem?_eq_getElem (show i < C.length by omega)]
  have e2 : C.getD (i + 1) 0 = C[i + 1] := by simp [List.getD, List.getElem?_eq_getElem h]
  rw [e1, e2]
  exact List.pairwise_iff_getElem.1 hp i (i + 1) (by omega) h (by omega)
theorem asc_place (C : List Int) (x : Int) : (∀ k ∈ C, x < k) ∨ (∀ k ∈ C, k ≤ x) ∨ (∃ i, i + 1 < C.length ∧ C.getD i 0 ≤ x ∧ x < C.getD (i + 1) 0) ∨ ¬ C.Pairwise (· < ·) := by
  induction C with
  | nil => left; simp
  | cons a t ih =>
    by_cases hp : (a :: t).Pairwise (· < ·)
    · obtain ⟨h1, h2⟩ := List.pairwise_cons.1 hp
      rcases Int.lt_or_le x a with h | h
      · left
        intro k hk
        rcases List.mem_cons.1 hk with rfl | hk
        · exact h
        · have := h1 k hk; omega
      · rcases ih with h3 | h3 | ⟨i, hi, h3, h4⟩ | h3
        · cases t with
          | nil => right; left; intro k hk; simp at hk; omega
          | cons b t =>
            right; right; left
            exact ⟨0, by simp, by simpa using h, by simpa using h3 b (by simp)⟩
        · right; left
          intro k hk
          rcases List.mem_cons.1 hk with rfl | hk
          · exact h
          · exact h3 k hk
        · right; right; left
          exact ⟨i + 1, by simp; omega, by simpa using h3, by simpa using h4⟩
        · exact absurd h2 h3
    · right; right; right; exact hp
theorem map_congr' {α β : Type} {l : List α} {f g : α → β} (h : ∀ x ∈ l, f x = g x) : l.map f = l.map g := List.map_congr_left h
/-- A square lies in just the piece that its set tells. -/
theorem pieces_mem {m : List (List R4)} (hm : ∀ a ∈ m, ∀ q ∈ a, q.l < q.r) (x y : Int) (s : Nat) (hs : s ≠ 0) : (∃ p ∈ piecesP m, p.1 = s ∧ p.2.has x y = true) ↔ setAt m x y = s := by
  have hpC : (cutsP m.flatten).Pairwise (· < ·) := (asc_all _).1
  have hin : ∀ a ∈ m, ∀ q ∈ a, q.b ∈ cutsP m.flatten ∧ q.t ∈ cutsP m.flatten := fun a ha q hq => cutsP_mem (List.mem_flatten.2 ⟨a, ha, hq⟩)
  have key : ∀ i k, i + 1 < (cutsP m.flatten).length → (cutsP m.flatten).getD i 0 ≤ y → y < (cutsP m.flatten).getD (i + 1) 0 → ∀ rows, rows = (m.map fun a => rowP a ((cutsP m.flatten).getD i 0)) → k + 1 < (endsP rows).length → (endsP rows).getD k 0 ≤ x → x < (endsP rows).getD (k + 1) 0 → withinSP rows ((endsP rows).getD k 0) = setAt m x y := by
    intro i k hi h1 h2 rows hr hk h3 h4
    have hpE : (endsP rows).Pairwise (· < ·) := (asc_all _).1
    unfold withinSP setAt
    rw [hr, List.map_map]
    refine congrArg maskL (map_congr' fun a ha => ?_)
    have hst := inR_steady (rowP a ((cutsP m.flatten).getD i 0)) (endsP rows) (fun sg hsg => by
      have hmem : ∀ z ∈ [sg.1, sg.2.1], z ∈ endsP rows := fun z hz => ((asc_all _).2.1 z).2 (List.mem_flatMap.2 ⟨rowP a ((cutsP m.flatten).getD i 0), by rw [hr]; exact List.mem_map.2 ⟨a, ha, rfl⟩, List.mem_flatMap.2 ⟨sg, hsg, hz⟩⟩)
      exact ⟨hmem _ (by simp), hmem _ (by simp)⟩) ((endsP rows).getD k 0) x (getD_mem (by omega)) h3 (asc_between hpE hk h3 h4)
    have hsy := inL_steady_y a x (cutsP m.flatten) (hin a ha) ((cutsP m.flatten).getD i 0) y (getD_mem (by omega)) h1 (asc_between hpC hi h1 h2)
    dsimp only [Function.comp] at hst hsy ⊢
    rw [← hr, ← hst, inR_row _ _ _ (hm a ha), hsy]
  constructor
  · rintro ⟨p, hp, rfl, hh⟩
    obtain ⟨i, hi, hp⟩ := List.mem_flatMap.1 hp
    obtain ⟨k, hk, hp⟩ := List.mem_flatMap.1 hp
    rw [List.mem_range] at hi hk
    unfold onePc at hp
    split at hp
    · simp at hp
    · rw [List.mem_singleton] at hp
      subst hp
      simp only [R4.has, Bool.and_eq_true, decide_eq_true_eq] at hh
      exact (key i k (by omega) hh.1.2 hh.2 _ rfl (by omega) hh.1.1.1 hh.1.1.2).symm
  · intro he
    have hne : ∃ a ∈ m, inL a x y = true := by
      by_cases hx : ∃ a ∈ m, inL a x y = true
      · exact hx
      · exfalso
        apply hs
        rw [← he]
        unfold setAt
        rw [maskL_zero]
        intro b hb
        obtain ⟨a, ha, rfl⟩ := List.mem_map.1 hb
        cases hq : inL a x y with
        | false => rfl
        | true => exact absurd ⟨a, ha, hq⟩ hx
    obtain ⟨a, ha, hax⟩ := hne
    rcases asc_place (cutsP m.flatten) y with h | h | ⟨i, hi, h1, h2⟩ | h
    · rw [inL_out_y a x _ (hin a ha) y (.inl h)] at hax; cases hax
    · rw [inL_out_y a x _ (hin a ha) y (.inr h)] at hax; cases hax
    · obtain ⟨rows, hr⟩ : ∃ rows, rows = (m.map fun a => rowP a ((cutsP m.flatten).getD i 0)) := ⟨_, rfl⟩
      have hsy := inL_steady_y a x (cutsP m.flatten) (hin a ha) ((cutsP m.flatten).getD i 0) y (getD_mem (by omega)) h1 (asc_between hpC hi h1 h2)
      dsimp only at hsy
      rw [hsy, ← inR_row _ _ _ (hm a ha)] at hax
      have hE : ∀ sg ∈ rowP a ((cutsP m.flatten).getD i 0), sg.1 ∈ endsP rows ∧ sg.2.1 ∈ endsP rows := fun sg hsg => by
        have hmem : ∀ z ∈ [sg.1, sg.2.1], z ∈ endsP rows := fun z hz => ((asc_all _).2.1 z).2 (List.mem_flatMap.2 ⟨rowP a ((cutsP m.flatten).getD i 0), by rw [hr]; exact List.mem_map.2 ⟨a, ha, rfl⟩, List.mem_flatMap.2 ⟨sg, hsg, hz⟩⟩)
        exact ⟨hmem _ (by simp), hmem _ (by simp)⟩
      rcases asc_place (endsP rows) x with h | h | ⟨k, hk, h3, h4⟩ | h
      · rw [inR_out _ _ hE x (.inl h)] at hax; cases hax
      · rw [inR_out _ _ hE x (.inr h)] at hax; cases hax
      · have hw := key i k hi h1 h2 rows hr hk h3 h4
        rw [he] at hw
        refine ⟨(s, ⟨(endsP rows).getD k 0, (cutsP m.flatten).getD i 0, (endsP rows).getD (k + 1) 0, (cutsP m.flatten).getD (i + 1) 0⟩), List.mem_flatMap.2 ⟨i, List.mem_range.2 (by omega), List.mem_flatMap.2 ⟨k, List.mem_range.2 (by rw [← hr]; omega), ?_⟩⟩, rfl, ?_⟩
        · unfold onePc
          rw [← hr, hw, if_neg hs]
          simp
        · simp only [R4.has, Bool.and_eq_true, decide_eq_true_eq]
          exact ⟨⟨⟨h3, h4⟩, h1⟩, h2⟩
      · exact absurd (asc_all _).1 h
    · exact absurd hpC h
theorem pieces_pos {m : List (List R4)} : ∀ p ∈ piecesP m, p.1 ≠ 0 ∧ p.2.l < p.2.r ∧ p.2.b < p.2.t := by
  intro p hp
  obtain ⟨i, hi, hp⟩ := List.mem_flatMap.1 hp
  obtain ⟨k, hk, hp⟩ := List.mem_flatMap.1 hp
  rw [List.mem_range] at hi hk
  unfold onePc at hp
  split at hp
  · simp at hp
  · rename_i h
    rw [List.mem_singleton] at hp
    subst hp
    exact ⟨h, getD_lt (C := endsP _) (asc_all _).1 (by omega), getD_lt (C := cutsP _) (asc_all _).1 (by omega)⟩
theorem pieces_lt {m : List (List R4)} : ∀ p ∈ piecesP m, p.1 < 2 ^ m.length := by
  intro p hp
  obtain ⟨i, hi, hp⟩ := List.mem_flatMap.1 hp
  obtain ⟨k, hk, hp⟩ := List.mem_flatMap.1 hp
  unfold onePc at hp
  split at hp
  · simp at hp
  · rw [List.mem_singleton] at hp
    subst hp
    have := maskL_lt ((m.map fun a => rowP a ((cutsP m.flatten).getD i 0)).map fun r => inR r ((endsP (m.map fun a => rowP a ((cutsP m.flatten).getD i 0))).getD k 0))
    rwa [List.length_map, List.length_map] at this
/-- The rectangles with a set. -/
def ofPc (l : List (Nat × R4)) (s : Nat) : List R4 := (l.filter fun p => p.1 == s).map (·.2)
theorem ofPc_snoc (l : List (Nat × R4)) (p : Nat × R4) (s : Nat) : ofPc (l ++ [p]) s = if p.1 = s then ofPc l s ++ [p.2] else ofPc l s := by
  unfold ofPc
  rw [List.filter_append, List.map_append]
  by_cases h : p.1 = s <;> simp [h]
theorem ofPc_in {m : List (List R4)} (hm : ∀ a ∈ m, ∀ q ∈ a, q.l < q.r) (x y : Int) {s : Nat} (hs : s ≠ 0) : inL (ofPc (piecesP m) s) x y = decide (setAt m x y = s) := by
  rw [Bool.eq_iff_iff, decide_eq_true_iff, ← pieces_mem hm x y s hs]
  unfold inL ofPc
  rw [List.any_eq_true]
  constructor
  · rintro ⟨q, hq, hh⟩
    obtain ⟨p, hp, rfl⟩ := List.mem_map.1 hq
    obtain ⟨h1, h2⟩ := List.mem_filter.1 hp
    exact ⟨p, h1, by simpa using h2, hh⟩
  · rintro ⟨p, hp, h1, h2⟩
    exact ⟨p.2, List.mem_map.2 ⟨p, List.mem_filter.2 ⟨hp, by simp [h1]⟩, rfl⟩, h2⟩
theorem ofPc_pos {m : List (List R4)} {s : Nat} : ∀ q ∈ ofPc (piecesP m) s, q.l < q.r := by
  intro q hq
  obtain ⟨p, hp, rfl⟩ := List.mem_map.1 hq
  exact (pieces_pos p (List.mem_filter.1 hp).1).2.1
/-- A face. -/
structure Fc where
  set : Int
  rg : List R4
def keysPc (l : List (Nat × R4)) : List Int := asc (l.map fun p => (p.1 : Int))
def bigF (m : List (List R4)) (s : Int) : Bool := decide (120 < (canonP (ofPc (piecesP m) s.toNat)).length)
def faceOf (m : List (List R4)) (s : Int) : Fc := ⟨s, canonP (ofPc (piecesP m) s.toNat)⟩
def facesP (m : List (List R4)) : List Fc × Int :=
  if 12 < m.length then ([], 1) else if m.all validP then (if (keysPc (piecesP m)).any (bigF m) then ([], 1) else ((keysPc (piecesP m)).map (faceOf m), 0)) else ([], 7)
theorem keysPc_mem {m : List (List R4)} (s : Int) : s ∈ keysPc (piecesP m) ↔ ∃ p ∈ piecesP m, (p.1 : Int) = s := by
  unfold keysPc
  rw [(asc_all _).2.1, List.mem_map]
end Go.Proofs.YtabcadpfhachoaaGreat

namespace Go.Proofs.YtabcadpfhachoaaGreat
open Go.RowKit
set_option linter.unusedVariables false
set_option linter.unusedSimpArgs false

theorem canonP_or (l : List R4) (hl : ∀ q ∈ l, q.l < q.r) : canonP l = chooseP orB l [] := by
  refine Canon.uniq (canonP_canon l hl) ((choose_canon orB rfl l [] hl (by simp)).congr fun x y => ?_)
  simp [orB, inL]
theorem canonP_side {s : Nat} {l : List R4} (h : InS s l) : (canonP l).length ≤ s * s := by
  rw [canonP_or l h.pos]
  exact choose_len orB s l [] h (by intro q hq; cases hq)
theorem pieces_in {s : Int} {m : List (List R4)} (hm : ∀ a ∈ m, InS s a) : InS s ((piecesP m).map (·.2)) := by
  intro q hq
  obtain ⟨p, hp, rfl⟩ := List.mem_map.1 hq
  have hpos := pieces_pos p hp
  obtain ⟨i, hi, hp⟩ := List.mem_flatMap.1 hp
  obtain ⟨k, hk, hp⟩ := List.mem_flatMap.1 hp
  rw [List.mem_range] at hi hk
  have hC : ∀ z ∈ cutsP m.flatten, 0 ≤ z ∧ z ≤ s := by
    intro z hz
    have h1 := ((asc_all _).2.1 z).1 hz
    obtain ⟨q, hq, hz⟩ := List.mem_flatMap.1 h1
    obtain ⟨a, ha, hq⟩ := List.mem_flatten.1 hq
    have := hm a ha q hq
    simp only [List.mem_cons, List.not_mem_nil, or_false] at hz
    rcases hz with rfl | rfl <;> omega
  have hE : ∀ y, ∀ z ∈ endsP (m.map fun a => rowP a y), 0 ≤ z ∧ z ≤ s := by
    intro y z hz
    have h1 := ((asc_all _).2.1 z).1 hz
    obtain ⟨r, hr, hz⟩ := List.mem_flatMap.1 h1
    obtain ⟨a, ha, rfl⟩ := List.mem_map.1 hr
    obtain ⟨sg, hsg, hz⟩ := List.mem_flatMap.1 hz
    have := row_in (hm a ha) y sg hsg
    simp only [List.mem_cons, List.not_mem_nil, or_false] at hz
    rcases hz with rfl | rfl <;> omega
  unfold onePc at hp
  split at hp
  · simp at hp
  · rw [List.mem_singleton] at hp
    subst hp
    have h1 := hC _ (getD_mem (C := cutsP m.flatten) (i := i) (by omega))
    have h2 := hC _ (getD_mem (C := cutsP m.flatten) (i := i + 1) (by omega))
    have h3 := hE _ _ (getD_mem (C := endsP (m.map fun a => rowP a ((cutsP m.flatten).getD i 0))) (i := k) (by omega))
    have h4 := hE _ _ (getD_mem (C := endsP (m.map fun a => rowP a ((cutsP m.flatten).getD i 0))) (i := k + 1) (by omega))
    exact ⟨h3.1, hpos.2.1, h4.2, h1.1, hpos.2.2, h2.2⟩
theorem ofPc_ins {s : Int} {m : List (List R4)} (hm : ∀ a ∈ m, InS s a) (t : Nat) : InS s (ofPc (piecesP m) t) := by
  intro q hq
  obtain ⟨p, hp, rfl⟩ := List.mem_map.1 hq
  exact pieces_in hm _ (List.mem_map.2 ⟨p, (List.mem_filter.1 hp).1, rfl⟩)
theorem setAt_lt (m : List (List R4)) (x y : Int) : setAt m x y < 2 ^ m.length := by
  have := maskL_lt (m.map fun a => inL a x y)
  rwa [List.length_map] at this
theorem setAt_bit (m : List (List R4)) (x y : Int) (i : Nat) : (setAt m x y).testBit i = ((m[i]?).map fun a => inL a x y).getD false := by
  unfold setAt
  rw [maskL_bit, List.getD_eq_getElem?_getD, List.getElem?_map]
/-- What the faces of regions are. -/
structure FacesOk (s : Nat) (m : List (List R4)) (F : List Fc) : Prop where
  up : (F.map Fc.set).Pairwise (· < ·)
  pos : ∀ f ∈ F, 0 < f.set ∧ f.set < 2 ^ m.length
  at' : ∀ f ∈ F, ∀ x y, inL f.rg x y = decide ((setAt m x y : Int) = f.set)
  reg : ∀ f ∈ F, Reg s (s * s) f.rg
  ne : ∀ f ∈ F, ∃ x y, (setAt m x y : Int) = f.set
  all : ∀ x y, setAt m x y ≠ 0 → ∃ f ∈ F, f.set = setAt m x y
theorem faceOf_ok {s : Nat} {m : List (List R4)} (hm : ∀ a ∈ m, InS s a) {t : Int} (ht : t ∈ keysPc (piecesP m)) : 0 < t ∧ t < 2 ^ m.length ∧ (∀ x y, inL (faceOf m t).rg x y = decide ((setAt m x y : Int) = t)) ∧ Reg s (s * s) (faceOf m t).rg ∧ ∃ x y, (setAt m x y : Int) = t := by
  obtain ⟨p, hp, rfl⟩ := (keysPc_mem t).1 ht
  have h1 := pieces_pos p hp
  have h2 := pieces_lt p hp
  have hpos : ∀ a ∈ m, ∀ q ∈ a, q.l < q.r := fun a ha => (hm a ha).pos
  have hi := ofPc_ins hm p.1
  have hat : ∀ x y, inL (canonP (ofPc (piecesP m) p.1)) x y = decide (setAt m x y = p.1) := fun x y => by
    rw [(canonP_canon _ hi.pos).mem x y]
    exact ofPc_in hpos x y h1.1
  refine ⟨by omega, by exact_mod_cast h2, fun x y => ?_, ⟨canonP_in hi, canonP_idem hi, canonP_side hi⟩, p.2.l, p.2.b, ?_⟩
  · show inL (canonP (ofPc (piecesP m) ((p.1 : Int)).toNat)) x y = _
    rw [Int.toNat_natCast, hat x y, Bool.eq_iff_iff, decide_eq_true_iff, decide_eq_true_iff]
    omega
  · have := (pieces_mem hpos p.2.l p.2.b p.1 h1.1).1 ⟨p, hp, rfl, by simp only [R4.has, Bool.and_eq_true, decide_eq_true_eq]; omega⟩
    omega
theorem facesP_ok {s : Nat} {m : List (List R4)} (hs : s ≤ 10) (hl : m.length ≤ 12) (hm : ∀ a ∈ m, InS s a) (hv : m.all validP = true) : ∃ F, facesP m = (F, 0) ∧ FacesOk s m F := by
  have hk : (keysPc (piecesP m)).any (bigF m) = false := by
    rw [List.any_eq_false]
    intro t ht
    have h1 := (faceOf_ok hm ht).2.2.2.1.len
    have h2 : s * s ≤ 10 * 10 := Nat.mul_le_mul hs hs
    show ¬ decide (120 < (faceOf m t).rg.length) = true
    simp only [decide_eq_true_eq]
    omega
  refine ⟨(keysPc (piecesP m)).map (faceOf m), by unfold facesP; rw [if_neg (by omega), if_pos hv, if_neg (by rw [hk]; simp)], ?_, ?_, ?_, ?_, ?_, ?_⟩
  · rw [List.map_map]
    have : (Fc.set ∘ faceOf m) = id := by funext t; rfl
    rw [this, List.map_id]
    exact (asc_all _).1
  · intro f hf
    obtain ⟨t, ht, rfl⟩ := List.mem_map.1 hf
    have := faceOf_ok hm ht
    exact ⟨this.1, this.2.1⟩
  · intro f hf
    obtain ⟨t, ht, rfl⟩ := List.mem_map.1 hf
    exact (faceOf_ok hm ht).2.2.1
  · intro f hf
    obtain ⟨t, ht, rfl⟩ := List.mem_map.1 hf
    exact (faceOf_ok hm ht).2.2.2.1
  · intro f hf
    obtain ⟨t, ht, rfl⟩ := List.mem_map.1 hf
    exact (faceOf_ok hm ht).2.2.2.2
  · intro x y h
    have hpos : ∀ a ∈ m, ∀ q ∈ a, q.l < q.r := fun a ha => (hm a ha).pos
    obtain ⟨p, hp, he, _⟩ := (pieces_mem hpos x y _ h).2 rfl
    exact ⟨faceOf m (p.1 : Int), List.mem_map.2 ⟨p.1, (keysPc_mem _).2 ⟨p, hp, rfl⟩, rfl⟩, by show (p.1 : Int) = _; rw [he]⟩
end Go.Proofs.YtabcadpfhachoaaGreat

namespace Go.Proofs.YtabcadpfhachoaaGreat
open Go.RowKit
set_option linter.unusedVariables false
set_option linter.unusedSimpArgs false

theorem wrap_nat63 (n : Nat) (h : n < 9223372036854775808) : IntKind.i64.wrap (n : Int) = (n : Int) := by
  have e : (n : Int) % 2 ^ 64 = n := Int.emod_eq_of_lt (by omega) (by omega)
  simp only [IntKind.wrap, IntKind.bits, IntKind.signed, e]
  rw [if_neg]
  simp
  omega
theorem ofInt_nat64 (a : Nat) (h : a < 18446744073709551616) : (BitVec.ofInt 64 (a : Int)).toNat = a := by
  rw [BitVec.ofInt_natCast, BitVec.toNat_ofNat]
  exact Nat.mod_eq_of_lt (by omega)
theorem or_i64n (a b : Nat) (ha : a < 2 ^ 62) (hb : b < 2 ^ 62) : bits .or .i64 (a : Int) (b : Int) = ((a ||| b : Nat) : Int) := by
  have hx : a ||| b < 2 ^ 62 := Nat.or_lt_two_pow ha hb
  show IntKind.i64.wrap ((BitVec.ofInt 64 (a : Int) ||| BitVec.ofInt 64 (b : Int)).toNat : Int) = _
  rw [BitVec.toNat_or, ofInt_nat64 a (by omega), ofInt_nat64 b (by omega)]
  exact wrap_nat63 _ (by omega)
theorem and_i64n (a b : Nat) (ha : a < 2 ^ 62) (hb : b < 2 ^ 62) : bits .and .i64 (a : Int) (b : Int) = ((a &&& b : Nat) : Int) := by
  have hx : a &&& b < 2 ^ 62 := Nat.and_lt_two_pow _ hb
  show IntKind.i64.wrap ((BitVec.ofInt 64 (a : Int) &&& BitVec.ofInt 64 (b : Int)).toNat : Int) = _
  rw [BitVec.toNat_and, ofInt_nat64 a (by omega), ofInt_nat64 b (by omega)]
  exact wrap_nat63 _ (by omega)
theorem xor_i64n (a b : Nat) (ha : a < 2 ^ 62) (hb : b < 2 ^ 62) : bits .xor .i64 (a : Int) (b : Int) = ((a ^^^ b : Nat) : Int) := by
  have hx : a ^^^ b < 2 ^ 62 := Nat.xor_lt_two_pow ha hb
  show IntKind.i64.wrap ((BitVec.ofInt 64 (a : Int) ^^^ BitVec.ofInt 64 (b : Int)).toNat : Int) = _
  rw [BitVec.toNat_xor, ofInt_nat64 a (by omega), ofInt_nat64 b (by omega)]
  exact wrap_nat63 _ (by omega)
/-- A number without the bits of another one. -/
def minusN (a b : Nat) : Nat := a ^^^ (a &&& b)
theorem minusN_bit (a b i : Nat) : (minusN a b).testBit i = (a.testBit i && !b.testBit i) := by
  unfold minusN
  rw [Nat.testBit_xor, Nat.testBit_and]
  cases a.testBit i <;> cases b.testBit i <;> rfl
theorem minusN_le (a b : Nat) (h : a < 2 ^ 62) : minusN a b < 2 ^ 62 := by
  unfold minusN
  exact Nat.xor_lt_two_pow h (Nat.lt_of_le_of_lt Nat.and_le_left h)
theorem andNot_i64n (a b : Nat) (ha : a < 2 ^ 62) (hb : b < 2 ^ 62) : bits .andNot .i64 (a : Int) (b : Int) = ((minusN a b : Nat) : Int) := by
  have hx := minusN_le a b ha
  show IntKind.i64.wrap ((BitVec.ofInt 64 (a : Int) &&& ~~~BitVec.ofInt 64 (b : Int)).toNat : Int) = _
  have e : (BitVec.ofInt 64 (a : Int) &&& ~~~BitVec.ofInt 64 (b : Int)).toNat = minusN a b := by
    refine Nat.eq_of_testBit_eq fun i => ?_
    rw [minusN_bit, BitVec.testBit_toNat, BitVec.getLsbD_and, BitVec.getLsbD_not, ← BitVec.testBit_toNat, ← BitVec.testBit_toNat, ofInt_nat64 a (by omega), ofInt_nat64 b (by omega)]
    by_cases hi : i < 64
    · simp [hi]
    · have : a.testBit i = false := Nat.testBit_lt_two_pow (Nat.lt_of_lt_of_le (show a < 2 ^ 64 by omega) (Nat.pow_le_pow_right (by omega) (by omega)))
      simp [hi, this]
  rw [e]
  exact wrap_nat63 _ (by omega)
theorem maskL_or (l : List Bool) (b : Bool) : maskL l ||| (b.toNat * 2 ^ l.length) = maskL (l ++ [b]) := by
  rw [maskL_snoc, Nat.add_comm]
  cases b
  · simp
  · rw [Bool.toNat_true, Nat.one_mul, Nat.or_comm]
    have h := Nat.two_pow_add_eq_or_of_lt (maskL_lt l) 1
    rw [Nat.mul_one] at h
    exact h.symm
theorem setAt_snoc (m : List (List R4)) (a : List R4) (x y : Int) : setAt (m ++ [a]) x y = setAt m x y ||| ((inL a x y).toNat * 2 ^ m.length) := by
  unfold setAt
  rw [List.map_append, List.map_cons, List.map_nil, ← maskL_or, List.length_map]
theorem setAt_take (m : List (List R4)) (i : Nat) (hi : i < m.length) (x y : Int) : setAt (m.take (i + 1)) x y = setAt (m.take i) x y ||| ((inL m[i] x y).toNat * 2 ^ i) := by
  rw [List.take_succ_eq_append_getElem hi, setAt_snoc, List.length_take, Nat.min_eq_left (Nat.le_of_lt hi)]

/-! ## Squares -/
def foundP (F : List Fc) (x y : Int) : Int := sumL' (fun f : Fc => if inL f.rg x y then 1 + 100 * f.set else 0) F
where sumL' (g : Fc → Int) (l : List Fc) : Int := (l.map g).sum
theorem found_step (F : List Fc) (k : Nat) (h : k < F.length) (x y : Int) : foundP (F.take (k + 1)) x y = foundP (F.take k) x y + if inL F[k].rg x y then 1 + 100 * F[k].set else 0 := by
  unfold foundP foundP.sumL'
  rw [List.take_succ_eq_append_getElem h, List.map_append, List.sum_append]
  simp
theorem found_one {s : Nat} {m : List (List R4)} {F : List Fc} (h : FacesOk s m F) (x y : Int) : foundP F x y = if setAt m x y = 0 then 0 else 1 + 100 * (setAt m x y : Int) := by
  have hz : ∀ l : List Fc, (∀ f ∈ l, inL f.rg x y = false) → foundP l x y = 0 := by
    intro l hl
    induction l with
    | nil => rfl
    | cons f t ih =>
      have e : foundP (f :: t) x y = (if inL f.rg x y then 1 + 100 * f.set else 0) + foundP t x y := by simp [foundP, foundP.sumL']
      rw [e, hl f (by simp), ih (fun g hg => hl g (by simp [hg]))]
      rfl
  by_cases h0 : setAt m x y = 0
  · rw [if_pos h0]
    refine hz F fun f hf => ?_
    rw [h.at' f hf x y, h0, decide_eq_false_iff_not]
    have := (h.pos f hf).1
    omega
  · rw [if_neg h0]
    obtain ⟨f, hf, he⟩ := h.all x y h0
    obtain ⟨l, r, rfl⟩ := List.append_of_mem hf
    have hup := h.up
    rw [List.map_append, List.map_cons, List.pairwise_append] at hup
    have hl : ∀ g ∈ l, inL g.rg x y = false := fun g hg => by
      rw [h.at' g (by simp [hg]) x y, decide_eq_false_iff_not]
      have := hup.2.2 g.set (List.mem_map.2 ⟨g, hg, rfl⟩) f.set (by simp)
      omega
    have hr : ∀ g ∈ r, inL g.rg x y = false := fun g hg => by
      rw [h.at' g (by simp [hg]) x y, decide_eq_false_iff_not]
      have := (List.pairwise_cons.1 hup.2.1).1 g.set (List.mem_map.2 ⟨g, hg, rfl⟩)
      omega
    have hff : inL f.rg x y = true := by rw [h.at' f hf x y, decide_eq_true_iff]; omega
    have e : foundP (l ++ f :: r) x y = foundP l x y + ((if inL f.rg x y then 1 + 100 * f.set else 0) + foundP r x y) := by simp [foundP, foundP.sumL']
    rw [e, hz l hl, hz r hr, hff, he]
    simp
theorem found_bd {s : Nat} {m : List (List R4)} {F : List Fc} (h : FacesOk s m F) (hm : m.length ≤ 4) (k : Nat) (x y : Int) : 0 ≤ foundP (F.take k) x y ∧ foundP (F.take k) x y ≤ 1601 * (F.take k).length := by
  have hp : (2 : Int) ^ m.length ≤ 16 := by
    have : (2 : Nat) ^ m.length ≤ 2 ^ 4 := Nat.pow_le_pow_right (by omega) hm
    exact_mod_cast this
  have hq : ∀ f ∈ F.take k, 0 < f.set ∧ f.set < 16 := fun f hf => by have := h.pos f (List.mem_of_mem_take hf); omega
  generalize F.take k = l at hq ⊢
  induction l with
  | nil => simp [foundP, foundP.sumL']
  | cons f t ih =>
    have e : foundP (f :: t) x y = (if inL f.rg x y then 1 + 100 * f.set else 0) + foundP t x y := by simp [foundP, foundP.sumL']
    have h1 := hq f (by simp)
    have h2 := ih (fun g hg => hq g (by simp [hg]))
    rw [e, List.length_cons]
    split <;> omega
theorem faces_len {s : Nat} {m : List (List R4)} {F : List Fc} (h : FacesOk s m F) : F.length + 1 ≤ 2 ^ m.length := by
  have h1 : ((F.map Fc.set).length : Int) ≤ ((2 ^ m.length : Int) - 1) - 1 + 1 := lt_len (F.map Fc.set) 1 (2 ^ m.length - 1) h.up (fun k hk => by
    obtain ⟨f, hf, rfl⟩ := List.mem_map.1 hk
    have := h.pos f hf
    omega) (by have : (1 : Int) ≤ 2 ^ m.length := by exact_mod_cast Nat.one_le_two_pow
               omega)
  rw [List.length_map] at h1
  have e : ((2 ^ m.length : Nat) : Int) = (2 : Int) ^ m.length := by simp
  omega
end Go.Proofs.YtabcadpfhachoaaGreat

namespace Go.Proofs.YtabcadpfhachoaaGreat
open Go.RowKit
set_option linter.unusedVariables false
set_option linter.unusedSimpArgs false

/-- Two faces with the same squares have the same rectangles. -/
theorem reg_same {s k n : Nat} {a b : List R4} (ha : Reg s k a) (hb : Reg s n b) (h : ∀ x y, inL a x y = inL b x y) : a = b := by
  rw [← ha.canon, ← hb.canon]
  exact canonP_congr a b ha.ins.pos hb.ins.pos h
theorem FacesOk.nodup {s : Nat} {m : List (List R4)} {F : List Fc} (h : FacesOk s m F) : (F.map Fc.set).Nodup := h.up.imp fun {a b} hab e => by omega
theorem FacesOk.set_iff {s : Nat} {m : List (List R4)} {F : List Fc} (h : FacesOk s m F) (t : Int) : t ∈ F.map Fc.set ↔ 0 < t ∧ ∃ x y, (setAt m x y : Int) = t := by
  constructor
  · intro ht
    obtain ⟨f, hf, rfl⟩ := List.mem_map.1 ht
    exact ⟨(h.pos f hf).1, h.ne f hf⟩
  · rintro ⟨h0, x, y, rfl⟩
    obtain ⟨f, hf, he⟩ := h.all x y (by omega)
    exact List.mem_map.2 ⟨f, hf, he⟩
/-! ## Turns -/
/-- Two bits exchanged. -/
def swapN (a b : Nat) (t : Nat) : Nat := if t.testBit a = t.testBit b then t else t ^^^ (2 ^ a ||| 2 ^ b)
theorem swapN_bit (a b t i : Nat) : (swapN a b t).testBit i = t.testBit (if i = a then b else if i = b then a else i) := by
  unfold swapN
  by_cases h : t.testBit a = t.testBit b
  · rw [if_pos h]
    by_cases h1 : i = a
    · rw [if_pos h1, h1, h]
    · rw [if_neg h1]
      by_cases h2 : i = b
      · rw [if_pos h2, h2, h]
      · rw [if_neg h2]
  · rw [if_neg h, Nat.testBit_xor, Nat.testBit_or, Nat.testBit_two_pow, Nat.testBit_two_pow]
    by_cases h1 : i = a
    · subst h1
      rw [if_pos rfl]
      revert h
      cases t.testBit i <;> cases t.testBit b <;> simp
    · rw [if_neg h1]
      by_cases h2 : i = b
      · subst h2
        rw [if_pos rfl]
        revert h
        cases t.testBit i <;> cases t.testBit a <;> simp
      · rw [if_neg h2, decide_eq_false (fun e => h1 e.symm), decide_eq_false (fun e => h2 e.symm)]
        simp
theorem swapN_inv (a b t : Nat) : swapN a b (swapN a b t) = t := by
  refine Nat.eq_of_testBit_eq fun i => ?_
  rw [swapN_bit, swapN_bit]
  by_cases h1 : i = a
  · subst h1
    rw [if_pos rfl]
    by_cases h2 : b = i
    · simp [h2]
    · simp [h2]
  · rw [if_neg h1]
    by_cases h2 : i = b
    · subst h2; simp
    · rw [if_neg h2, if_neg h1, if_neg h2]
theorem swapN_zero (a b : Nat) : swapN a b 0 = 0 := by simp [swapN]
/-- A list with two elements exchanged. -/
def swapL (m : List (List R4)) (a b : Nat) (ha : a < m.length) (hb : b < m.length) : List (List R4) := (m.set a m[b]).set b m[a]
theorem swapL_len (m : List (List R4)) (a b : Nat) (ha : a < m.length) (hb : b < m.length) : (swapL m a b ha hb).length = m.length := by simp [swapL]
theorem swapL_mem {m : List (List R4)} {a b : Nat} {ha : a < m.length} {hb : b < m.length} {q : List R4} (h : q ∈ swapL m a b ha hb) : q ∈ m := by
  unfold swapL at h
  rcases List.mem_or_eq_of_mem_set h with h | rfl
  · rcases List.mem_or_eq_of_mem_set h with h | rfl
    · exact h
    · exact List.getElem_mem hb
  · exact List.getElem_mem ha
theorem setAt_swap (m : List (List R4)) (a b : Nat) (ha : a < m.length) (hb : b < m.length) (x y : Int) : setAt (swapL m a b ha hb) x y = swapN a b (setAt m x y) := by
  refine Nat.eq_of_testBit_eq fun i => ?_
  rw [swapN_bit, setAt_bit, setAt_bit]
  unfold swapL
  rw [List.getElem?_set, List.getElem?_set, List.length_set]
  by_cases h2 : b = i
  · subst h2
    rw [if_pos rfl, if_pos hb]
    by_cases h1 : b = a
    · subst h1; simp [hb]
    · rw [if_neg h1, if_pos rfl, List.getElem?_eq_getElem ha]
  · rw [if_neg h2]
    by_cases h1 : a = i
    · subst h1
      rw [if_pos rfl, if_pos ha, if_pos rfl, List.getElem?_eq_getElem hb]
    · rw [if_neg h1, if_neg (fun e => h1 e.symm), if_neg (fun e => h2 e.symm)]
theorem turns_law {s : Nat} {m : List (List R4)} {a b : Nat} {ha : a < m.length} {hb : b < m.length} {F G : List Fc} (hF : FacesOk s m F) (hG : FacesOk s (swapL m a b ha hb) G) :
    F.length = G.length ∧ ∀ f ∈ F, ∃ g ∈ G, g.set = ((swapN a b f.set.toNat : Nat) : Int) ∧ g.rg = f.rg := by
  have key : ∀ f ∈ F, ∃ g ∈ G, g.set = ((swapN a b f.set.toNat : Nat) : Int) ∧ g.rg = f.rg := by
    intro f hf
    obtain ⟨x, y, hxy⟩ := hF.ne f hf
    have hp := (hF.pos f hf).1
    have hn : setAt (swapL m a b ha hb) x y = swapN a b (setAt m x y) := setAt_swap m a b ha hb x y
    have hx : setAt m x y = f.set.toNat := by omega
    have h0 : setAt (swapL m a b ha hb) x y ≠ 0 := by
      rw [hn]
      intro e
      have := congrArg (swapN a b) e
      rw [swapN_inv, swapN_zero] at this
      omega
    obtain ⟨g, hg, he⟩ := hG.all x y h0
    refine ⟨g, hg, by rw [he, hn, hx], ?_⟩
    refine reg_same (hG.reg g hg) (hF.reg f hf) fun u v => ?_
    rw [hG.at' g hg, hF.at' f hf, Bool.eq_iff_iff, decide_eq_true_iff, decide_eq_true_iff, setAt_swap, he, hn]
    constructor
    · intro e
      have e' : swapN a b (setAt m u v) = swapN a b (setAt m x y) := by exact_mod_cast e
      have := congrArg (swapN a b) e'
      rw [swapN_inv, swapN_inv] at this
      rw [this, hxy]
    · intro e
      have : setAt m u v = setAt m x y := by omega
      rw [this]
  refine ⟨?_, key⟩
  have hinj : ∀ t u : Int, 0 < t → 0 < u → ((swapN a b t.toNat : Nat) : Int) = ((swapN a b u.toNat : Nat) : Int) → t = u := by
    intro t u h1 h2 e
    have e' : swapN a b t.toNat = swapN a b u.toNat := by exact_mod_cast e
    have := congrArg (swapN a b) e'
    rw [swapN_inv, swapN_inv] at this
    omega
  have hnd : ((F.map Fc.set).map fun t => ((swapN a b t.toNat : Nat) : Int)).Nodup := by
    refine List.pairwise_map.2 ((hF.nodup).imp_of_mem fun {t u} ht hu hne e => hne (hinj t u ?_ ?_ e))
    · exact ((hF.set_iff t).1 ht).1
    · exact ((hF.set_iff u).1 hu).1
  have hperm : ((F.map Fc.set).map fun t => ((swapN a b t.toNat : Nat) : Int)).Perm (G.map Fc.set) := by
    refine (List.perm_ext_iff_of_nodup hnd hG.nodup).2 fun t => ?_
    rw [hG.set_iff, List.mem_map]
    constructor
    · rintro ⟨u, hu, rfl⟩
      obtain ⟨h0, x, y, rfl⟩ := (hF.set_iff u).1 hu
      rw [Int.toNat_natCast]
      refine ⟨?_, x, y, by rw [setAt_swap]⟩
      rcases Nat.eq_zero_or_pos (swapN a b (setAt m x y)) with e | e
      · have := congrArg (swapN a b) e
        rw [swapN_inv, swapN_zero] at this
        omega
      · omega
    · rintro ⟨h0, x, y, rfl⟩
      rw [setAt_swap] at h0 ⊢
      refine ⟨(setAt m x y : Int), (hF.set_iff _).2 ⟨?_, x, y, rfl⟩, by rw [Int.toNat_natCast]⟩
      rcases Nat.eq_zero_or_pos (setAt m x y) with e | e
      · rw [e, swapN_zero] at h0; omega
      · omega
  have := hperm.length_eq
  simpa using this
/-! ## A further region -/
theorem strip_bit (m : List (List R4)) (e : List R4) (x y : Int) : minusN (setAt (m ++ [e]) x y) (2 ^ m.length) = setAt m x y := by
  refine Nat.eq_of_testBit_eq fun i => ?_
  rw [minusN_bit, setAt_bit, setAt_bit, Nat.testBit_two_pow]
  by_cases h : m.length = i
  · subst h
    simp
  · rw [decide_eq_false h]
    simp only [Bool.not_false, Bool.and_true]
    by_cases h2 : i < m.length
    · rw [List.getElem?_append_left h2]
    · rw [List.getElem?_eq_none (by simp; omega), List.getElem?_eq_none (by omega)]
theorem more_law {s : Nat} {m : List (List R4)} {e : List R4} {F G : List Fc} (hs : s ≤ 10) (hF : FacesOk s m F) (hG : FacesOk s (m ++ [e]) G) :
    F.length ≤ G.length ∧ ∀ g ∈ G, minusN g.set.toNat (2 ^ m.length) = 0 ∨ ∃ f ∈ F, f.set = ((minusN g.set.toNat (2 ^ m.length) : Nat) : Int) ∧ withinP g.rg f.rg = true := by
  have hk : s * s ≤ 120 := by
    have := Nat.mul_le_mul hs hs
    omega
  refine ⟨?_, fun g hg => ?_⟩
  · have h1 : (F.map Fc.set).length ≤ ((G.map Fc.set).map fun t => ((minusN t.toNat (2 ^ m.length) : Nat) : Int)).length := by
      refine sub_lenO _ _ hF.up fun t ht => ?_
      obtain ⟨h0, x, y, rfl⟩ := (hF.set_iff t).1 ht
      have hn := strip_bit m e x y
      refine List.mem_map.2 ⟨(setAt (m ++ [e]) x y : Int), (hG.set_iff _).2 ⟨?_, x, y, rfl⟩, by rw [Int.toNat_natCast, hn]⟩
      rcases Nat.eq_zero_or_pos (setAt (m ++ [e]) x y) with z | z
      · rw [z] at hn
        simp [minusN] at hn
        omega
      · omega
    simpa using h1
  · obtain ⟨x, y, hxy⟩ := hG.ne g hg
    have hp := (hG.pos g hg).1
    have hn := strip_bit m e x y
    have hx : setAt (m ++ [e]) x y = g.set.toNat := by omega
    rw [hx] at hn
    rcases Nat.eq_zero_or_pos (setAt m x y) with z | z
    · left; rw [hn, z]
    · right
      obtain ⟨f, hf, he⟩ := hF.all x y (by omega)
      refine ⟨f, hf, by rw [he, hn], (within_iff s (s * s) (s * s) hs hk hk (hG.reg g hg) (hF.reg f hf)).2 fun u v huv => ?_⟩
      rw [hG.at' g hg, decide_eq_true_iff] at huv
      rw [hF.at' f hf, decide_eq_true_iff, he]
      have h3 := strip_bit m e u v
      have h4 : setAt (m ++ [e]) u v = g.set.toNat := by omega
      rw [h4, hn] at h3
      rw [h3]
where sub_lenO : ∀ (E X : List Int), E.Pairwise (· < ·) → (∀ e ∈ E, e ∈ X) → E.length ≤ X.length
  | [], X, _, _ => Nat.zero_le _
  | a :: t, X, hp, h => by
    obtain ⟨h1, h2⟩ := List.pairwise_cons.1 hp
    have hm := h a (by simp)
    have ih := sub_lenO t (X.erase a) h2 (fun e he => (List.mem_erase_of_ne (by have := h1 e he; omega)).2 (h e (by simp [he])))
    have hl := List.length_erase_of_mem hm
    have hpos : 0 < X.length := List.length_pos_of_mem hm
    rw [List.length_cons]
    omega
end Go.Proofs.YtabcadpfhachoaaGreat
