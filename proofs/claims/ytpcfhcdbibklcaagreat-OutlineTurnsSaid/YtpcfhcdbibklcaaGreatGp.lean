/- Regions, plain: the segments of a step function, the spans of a row, the canonical rectangles of a set of squares: each is one alone. No function of the program is met here. -/
import Derived.Lib.Hide
namespace Go.Proofs.YtpcfhcdbibklcaaGreat
set_option linter.unusedVariables false

/-- A segment: from, before, and the value there. -/
abbrev Sg (V : Type) := Int × Int × V

/-- The segments of a step function from c on: each as long as the value lasts. -/
def SegF {V : Type} (f : Int → Option V) : Int → List (Sg V) → Prop
  | c, [] => ∀ x, c ≤ x → f x = none
  | c, s :: t => c ≤ s.1 ∧ s.1 < s.2.1 ∧ (∀ x, c ≤ x → x < s.1 → f x = none) ∧ (∀ x, s.1 ≤ x → x < s.2.1 → f x = some s.2.2) ∧ f s.2.1 ≠ some s.2.2 ∧ SegF f s.2.1 t

theorem SegF.uniq {V : Type} {f : Int → Option V} : ∀ {l m : List (Sg V)} {c : Int}, SegF f c l → SegF f c m → l = m
  | [], [], _, _, _ => rfl
  | [], s :: t, c, h, h' => by
    obtain ⟨h1, h2, _, h4, _⟩ := h'
    have := h4 s.1 (Int.le_refl _) h2
    rw [h s.1 h1] at this; cases this
  | s :: t, [], c, h', h => by
    obtain ⟨h1, h2, _, h4, _⟩ := h'
    have := h4 s.1 (Int.le_refl _) h2
    rw [h s.1 h1] at this; cases this
  | s :: t, s' :: t', c, h, h' => by
    obtain ⟨a1, a2, a3, a4, a5, a6⟩ := h
    obtain ⟨b1, b2, b3, b4, b5, b6⟩ := h'
    have e1 : s.1 = s'.1 := by
      rcases Int.lt_trichotomy s.1 s'.1 with h | h | h
      · have := b3 s.1 a1 h; rw [a4 s.1 (Int.le_refl _) a2] at this; cases this
      · exact h
      · have := a3 s'.1 b1 h; rw [b4 s'.1 (Int.le_refl _) b2] at this; cases this
    have e2 : s.2.2 = s'.2.2 := by
      have h1 := a4 s.1 (Int.le_refl _) a2
      have h2 := b4 s'.1 (Int.le_refl _) b2
      rw [← e1] at h2
      exact Option.some.inj (h1.symm.trans h2)
    have e3 : s.2.1 = s'.2.1 := by
      rcases Int.lt_trichotomy s.2.1 s'.2.1 with h | h | h
      · exact absurd (e2 ▸ b4 s.2.1 (by omega) h) a5
      · exact h
      · exact absurd (e2 ▸ a4 s'.2.1 (by omega) h) b5
    have e : s = s' := Prod.ext e1 (Prod.ext e3 e2)
    subst e
    rw [SegF.uniq a6 b6]

theorem SegF.down {V : Type} {f : Int → Option V} {l : List (Sg V)} {c d : Int} (h : SegF f c l) (hd : d ≤ c) (hn : ∀ x, d ≤ x → x < c → f x = none) : SegF f d l := by
  cases l with
  | nil =>
    intro x hx
    by_cases hc : c ≤ x
    · exact h x hc
    · exact hn x hx (by omega)
  | cons s t =>
    obtain ⟨a1, a2, a3, a4, a5, a6⟩ := h
    refine ⟨by omega, a2, fun x h1 h2 => ?_, a4, a5, a6⟩
    by_cases hc : c ≤ x
    · exact a3 x hc h2
    · exact hn x h1 (by omega)

/-- The segments of a step function. -/
def Segs {V : Type} (f : Int → Option V) (l : List (Sg V)) : Prop := ∃ c, (∀ x, x < c → f x = none) ∧ SegF f c l
theorem Segs.uniq {V : Type} {f : Int → Option V} {l m : List (Sg V)} (h : Segs f l) (h' : Segs f m) : l = m := by
  obtain ⟨c, hc, hl⟩ := h
  obtain ⟨d, hd, hm⟩ := h'
  by_cases h : c ≤ d
  · exact SegF.uniq hl (hm.down h fun x _ hx => hd x hx)
  · exact SegF.uniq (hl.down (by omega) fun x _ hx => hc x hx) hm

theorem SegF.mem {V : Type} {f : Int → Option V} : ∀ {l : List (Sg V)} {c : Int}, SegF f c l → ∀ x v, c ≤ x → (f x = some v ↔ ∃ s ∈ l, s.1 ≤ x ∧ x < s.2.1 ∧ s.2.2 = v)
  | [], c, h, x, v, hx => by simp [h x hx]
  | s :: t, c, h, x, v, hx => by
    obtain ⟨a1, a2, a3, a4, a5, a6⟩ := h
    by_cases h1 : x < s.1
    · rw [a3 x hx h1]
      simp only [List.mem_cons, reduceCtorEq, false_iff]
      rintro ⟨q, hq, h2, h3, h4⟩
      rcases hq with rfl | hq
      · omega
      · have := SegF.ge a6 q hq; omega
    · by_cases h2 : x < s.2.1
      · rw [a4 x (by omega) h2]
        constructor
        · intro h; exact ⟨s, by simp, by omega, h2, Option.some.inj h⟩
        · rintro ⟨q, hq, h3, h4, h5⟩
          rcases List.mem_cons.1 hq with rfl | hq
          · rw [h5]
          · have := SegF.ge a6 q hq; omega
      · rw [SegF.mem a6 x v (by omega)]
        constructor
        · rintro ⟨q, hq, h⟩; exact ⟨q, by simp [hq], h⟩
        · rintro ⟨q, hq, h3, h4, h5⟩
          rcases List.mem_cons.1 hq with rfl | hq
          · omega
          · exact ⟨q, hq, h3, h4, h5⟩
where
  SegF.ge {V : Type} {f : Int → Option V} : ∀ {l : List (Sg V)} {c : Int}, SegF f c l → ∀ s ∈ l, c ≤ s.1
    | s :: t, c, h, q, hq => by
      obtain ⟨a1, a2, a3, a4, a5, a6⟩ := h
      rcases List.mem_cons.1 hq with rfl | hq
      · exact a1
      · have := SegF.ge a6 q hq; omega
theorem SegF.pos {V : Type} {f : Int → Option V} : ∀ {l : List (Sg V)} {c : Int}, SegF f c l → ∀ s ∈ l, s.1 < s.2.1
  | s :: t, c, h, q, hq => by
    obtain ⟨a1, a2, a3, a4, a5, a6⟩ := h
    rcases List.mem_cons.1 hq with rfl | hq
    · exact a2
    · exact SegF.pos a6 q hq
theorem Segs.pos {V : Type} {f : Int → Option V} {l : List (Sg V)} (h : Segs f l) : ∀ s ∈ l, s.1 < s.2.1 := by
  obtain ⟨c, hc, hl⟩ := h
  exact hl.pos
theorem SegF.low {V : Type} {f : Int → Option V} : ∀ {l : List (Sg V)} {c : Int}, SegF f c l → ∀ s ∈ l, c ≤ s.1
  | s :: t, c, h, q, hq => by
    obtain ⟨a1, a2, a3, a4, a5, a6⟩ := h
    rcases List.mem_cons.1 hq with rfl | hq
    · exact a1
    · have := SegF.low a6 q hq; omega
theorem Segs.mem {V : Type} {f : Int → Option V} {l : List (Sg V)} (h : Segs f l) (x : Int) (v : V) : f x = some v ↔ ∃ s ∈ l, s.1 ≤ x ∧ x < s.2.1 ∧ s.2.2 = v := by
  obtain ⟨c, hc, hl⟩ := h
  by_cases hx : c ≤ x
  · exact hl.mem x v hx
  · rw [hc x (by omega)]
    simp only [reduceCtorEq, false_iff]
    rintro ⟨q, hq, h2, h3, h4⟩
    have := hl.low q hq; omega

/-- The segments of a step function from c on, before e. -/
def SegI {V : Type} (f : Int → Option V) : Int → Int → List (Sg V) → Prop
  | c, e, [] => c ≤ e ∧ ∀ x, c ≤ x → x < e → f x = none
  | c, e, s :: t => c ≤ s.1 ∧ s.1 < s.2.1 ∧ (∀ x, c ≤ x → x < s.1 → f x = none) ∧ (∀ x, s.1 ≤ x → x < s.2.1 → f x = some s.2.2) ∧ (s.2.1 < e → f s.2.1 ≠ some s.2.2) ∧ SegI f s.2.1 e t
theorem SegI.le {V : Type} {f : Int → Option V} : ∀ {l : List (Sg V)} {c e : Int}, SegI f c e l → c ≤ e
  | [], _, _, h => h.1
  | s :: t, c, e, h => by
    obtain ⟨a1, a2, a3, a4, a5, a6⟩ := h
    have := SegI.le a6; omega
theorem SegI.full {V : Type} {f : Int → Option V} : ∀ {l : List (Sg V)} {c e : Int}, SegI f c e l → (∀ x, e ≤ x → f x = none) → SegF f c l
  | [], c, e, h, hn => fun x hx => by
    by_cases h1 : x < e
    · exact h.2 x hx h1
    · exact hn x (by omega)
  | s :: t, c, e, h, hn => by
    obtain ⟨a1, a2, a3, a4, a5, a6⟩ := h
    refine ⟨a1, a2, a3, a4, ?_, SegI.full a6 hn⟩
    by_cases h1 : s.2.1 < e
    · exact a5 h1
    · rw [hn s.2.1 (by omega)]; simp

/-- A segment more, at the end: it makes the last one longer if it touches it and has its value. -/
def stepO {V : Type} [DecidableEq V] (l : List (Sg V)) (lo hi : Int) : Option V → List (Sg V)
  | none => l
  | some v => match l.getLast? with
    | none => [(lo, hi, v)]
    | some s => if s.2.1 = lo ∧ s.2.2 = v then l.dropLast ++ [(s.1, hi, v)] else l ++ [(lo, hi, v)]
theorem stepO_cons {V : Type} [DecidableEq V] (s s' : Sg V) (t : List (Sg V)) (lo hi : Int) (o : Option V) : stepO (s :: s' :: t) lo hi o = s :: stepO (s' :: t) lo hi o := by
  cases o with
  | none => rfl
  | some v =>
    simp only [stepO, List.getLast?_cons_cons]
    cases h : (s' :: t).getLast? with
    | none => simp at h
    | some q =>
      simp only
      split
      · simp [List.dropLast_cons_of_ne_nil]
      · simp

theorem SegI.step {V : Type} [DecidableEq V] {f : Int → Option V} {o : Option V} : ∀ {l : List (Sg V)} {c e e' : Int}, SegI f c e l → e < e' → (∀ x, e ≤ x → x < e' → f x = o) → SegI f c e' (stepO l e e' o)
  | [], c, e, e', h, he, ho => by
    cases o with
    | none =>
      refine ⟨by have := h.1; omega, fun x h1 h2 => ?_⟩
      by_cases h3 : x < e
      · exact h.2 x h1 h3
      · exact ho x (by omega) h2
    | some v =>
      show SegI f c e' [(e, e', v)]
      exact ⟨h.1, he, h.2, ho, fun h => absurd h (by simp), by simp [SegI]; intros; omega⟩
  | [s], c, e, e', h, he, ho => by
    obtain ⟨a1, a2, a3, a4, a5, a6, a7⟩ := h
    cases o with
    | none =>
      show SegI f c e' [s]
      refine ⟨a1, a2, a3, a4, fun _ => ?_, by omega, fun x h1 h2 => ?_⟩
      · by_cases h3 : s.2.1 < e
        · exact a5 h3
        · rw [ho s.2.1 (by omega) (by omega)]; simp
      · by_cases h3 : x < e
        · exact a7 x h1 h3
        · exact ho x (by omega) h2
    | some v =>
      by_cases hm : s.2.1 = e ∧ s.2.2 = v
      · have e1 : stepO [s] e e' (some v) = [(s.1, e', v)] := by simp [stepO, hm]
        rw [e1]
        refine ⟨a1, by simp only; omega, a3, fun x h1 h2 => ?_, fun h => absurd h (by simp), by simp [SegI]; intros; omega⟩
        by_cases h3 : x < e
        · rw [a4 x h1 (by omega), hm.2]
        · exact ho x (by omega) h2
      · have e1 : stepO [s] e e' (some v) = [s, (e, e', v)] := by simp [stepO, hm]
        rw [e1]
        refine ⟨a1, a2, a3, a4, fun _ => ?_, a6, he, a7, ho, fun h => absurd h (by simp), by simp [SegI]; intros; omega⟩
        by_cases h3 : s.2.1 < e
        · exact a5 h3
        · have h4 : s.2.1 = e := by omega
          rw [h4, ho e (by omega) he]
          intro h5
          exact hm ⟨h4, (Option.some.inj h5).symm⟩
  | s :: s' :: t, c, e, e', h, he, ho => by
    obtain ⟨a1, a2, a3, a4, a5, a6⟩ := h
    rw [stepO_cons]
    refine ⟨a1, a2, a3, a4, fun _ => a5 ?_, SegI.step a6 he ho⟩
    have h1 := a6.2.2.2.2.2.le
    have h2 := a6.1
    have h3 := a6.2.1
    omega

/-- The segments between cuts, one after the other. -/
def foldC {V : Type} [DecidableEq V] (g : Int → Option V) : List Int → List (Sg V) → List (Sg V)
  | x :: y :: r, acc => foldC g (y :: r) (stepO acc x y (g x))
  | _, acc => acc
/-- Between two neighbouring cuts f is what g is at the first one. -/
def Adj {V : Type} (f g : Int → Option V) : List Int → Prop
  | x :: y :: r => (∀ z, x ≤ z → z < y → f z = g x) ∧ Adj f g (y :: r)
  | _ => True
theorem foldC_segI {V : Type} [DecidableEq V] {f g : Int → Option V} : ∀ (r : List Int) (x c : Int) (acc : List (Sg V)), (x :: r).Pairwise (· < ·) → Adj f g (x :: r) → SegI f c x acc → SegI f c ((x :: r).getLast (by simp)) (foldC g (x :: r) acc)
  | [], x, c, acc, _, _, h => h
  | y :: r, x, c, acc, hp, ha, h => by
    have hxy : x < y := (List.pairwise_cons.1 hp).1 y (by simp)
    have := foldC_segI r y c (stepO acc x y (g x)) (List.pairwise_cons.1 hp).2 ha.2 (h.step hxy ha.1)
    simpa [foldC] using this
theorem getLast_max : ∀ (l : List Int) (h : l ≠ []), l.Pairwise (· < ·) → ∀ k ∈ l, k ≤ l.getLast h
  | [x], _, _, k, hk => by simp at hk; simp [hk]
  | x :: y :: r, _, hp, k, hk => by
    have h1 := getLast_max (y :: r) (by simp) (List.pairwise_cons.1 hp).2
    rw [List.getLast_cons (by simp)]
    rcases List.mem_cons.1 hk with rfl | hk
    · have := (List.pairwise_cons.1 hp).1 y (by simp)
      have := h1 y (by simp)
      omega
    · exact h1 k hk
theorem segs_of_cuts {V : Type} [DecidableEq V] {f g : Int → Option V} (cuts : List Int) (hp : cuts.Pairwise (· < ·)) (ha : Adj f g cuts) (hlo : ∀ z, (∀ k ∈ cuts, z < k) → f z = none) (hhi : ∀ z, (∀ k ∈ cuts, k ≤ z) → f z = none) : Segs f (foldC g cuts []) := by
  cases cuts with
  | nil => exact ⟨0, fun x _ => hlo x (by simp), fun x _ => hlo x (by simp)⟩
  | cons x r =>
    refine ⟨x, fun z hz => hlo z fun k hk => ?_, (foldC_segI r x x [] hp ha ⟨Int.le_refl _, fun z h1 h2 => by omega⟩).full fun z hz => hhi z fun k hk => ?_⟩
    · rcases List.mem_cons.1 hk with rfl | hk
      · exact hz
      · have := (List.pairwise_cons.1 hp).1 k hk; omega
    · have := getLast_max (x :: r) (by simp) hp k hk
      omega
/-- f does not change between cuts. -/
def Steady {V : Type} (f : Int → V) (cuts : List Int) : Prop := ∀ x z, x ∈ cuts → x ≤ z → (∀ k ∈ cuts, k ≤ x ∨ z < k) → f z = f x
theorem Steady.adj {V : Type} {f : Int → Option V} : ∀ {cuts : List Int}, cuts.Pairwise (· < ·) → Steady f cuts → Adj f f cuts
  | [], _, _ => trivial
  | [x], _, _ => trivial
  | x :: y :: r, hp, hs => by
    obtain ⟨h1, h2⟩ := List.pairwise_cons.1 hp
    refine ⟨fun z hz hy => hs x z (by simp) hz fun k hk => ?_, Steady.adj h2 fun a z ha haz hk => hs a z (by simp [ha]) haz fun k hk' => ?_⟩
    · rcases List.mem_cons.1 hk with rfl | hk
      · exact .inl (Int.le_refl _)
      · rcases List.mem_cons.1 hk with rfl | hk
        · exact .inr hy
        · have := (List.pairwise_cons.1 h2).1 k hk
          exact .inr (by omega)
    · rcases List.mem_cons.1 hk' with rfl | hk'
      · exact .inl (by have := h1 a ha; omega)
      · exact hk k hk'

/-- Values struck out, or turned one by one. -/
theorem SegF.bind {V U : Type} {f : Int → Option V} (g : V → Option U) (hg : ∀ v v' u, g v = some u → g v' = some u → v = v') : ∀ {l : List (Sg V)} {c : Int}, SegF f c l → SegF (fun x => (f x).bind g) c (l.filterMap fun s => (g s.2.2).map fun u => (s.1, s.2.1, u))
  | [], c, h => fun x hx => by simp [h x hx]
  | s :: t, c, h => by
    obtain ⟨a1, a2, a3, a4, a5, a6⟩ := h
    have ih := SegF.bind g hg a6
    cases hv : g s.2.2 with
    | none =>
      rw [List.filterMap_cons_none (by simp [hv])]
      refine ih.down (by omega) fun x h1 h2 => ?_
      by_cases h3 : x < s.1
      · simp [a3 x h1 h3]
      · simp [a4 x (by omega) h2, hv]
    | some u =>
      rw [List.filterMap_cons_some (by simp [hv]; rfl)]
      refine ⟨a1, a2, fun x h1 h2 => by simp [a3 x h1 h2], fun x h1 h2 => by simp [a4 x h1 h2, hv], ?_, ih⟩
      simp only
      intro h6
      cases hf : f s.2.1 with
      | none => simp [hf] at h6
      | some v' =>
        rw [hf] at h6
        simp at h6
        exact a5 (by rw [hf, hg _ _ _ h6 hv])
theorem Segs.bind {V U : Type} {f : Int → Option V} (g : V → Option U) (hg : ∀ v v' u, g v = some u → g v' = some u → v = v') {l : List (Sg V)} (h : Segs f l) : Segs (fun x => (f x).bind g) (l.filterMap fun s => (g s.2.2).map fun u => (s.1, s.2.1, u)) := by
  obtain ⟨c, hc, hl⟩ := h
  exact ⟨c, fun x hx => by simp [hc x hx], hl.bind g hg⟩

/-- Whether something holds, as a value. -/
def opt (b : Bool) : Option Unit := if b then some () else none
theorem opt_some (b : Bool) : opt b = some () ↔ b = true := by cases b <;> simp [opt]
theorem opt_ne (b : Bool) (u : Unit) : opt b ≠ some u ↔ b = false := by cases b <;> simp [opt]
theorem opt_none (b : Bool) : opt b = none ↔ b = false := by cases b <;> simp [opt]
/-- A list that is not empty, as a value. -/
def nz {V : Type} (l : List V) : Option (List V) := if l.isEmpty then none else some l
theorem nz_inj {V : Type} (v v' u : List V) (h : nz v = some u) (h' : nz v' = some u) : v = v' := by
  unfold nz at h h'
  split at h <;> split at h' <;> simp_all

/-- A span more, that begins no earlier than all. -/
def sweep (l : List (Sg Unit)) (s : Sg Unit) : List (Sg Unit) := match l.getLast? with
  | none => [s]
  | some q => if s.1 ≤ q.2.1 then l.dropLast ++ [(q.1, max q.2.1 s.2.1, ())] else l ++ [s]
theorem sweep_cons (q q' : Sg Unit) (t : List (Sg Unit)) (s : Sg Unit) : sweep (q :: q' :: t) s = q :: sweep (q' :: t) s := by
  simp only [sweep, List.getLast?_cons_cons]
  cases h : (q' :: t).getLast? with
  | none => simp at h
  | some p =>
    simp only
    split
    · simp [List.dropLast_cons_of_ne_nil]
    · simp
/-- Whether a number lies in a span. -/
def inS (s : Sg Unit) (x : Int) : Bool := decide (s.1 ≤ x) && decide (x < s.2.1)
theorem sweep_segF (s : Sg Unit) (hs : s.1 < s.2.1) : ∀ {l : List (Sg Unit)} {p : Int → Bool} {c : Int}, c ≤ s.1 → SegF (fun x => opt (p x)) c l → (∀ q ∈ l, q.1 ≤ s.1) → SegF (fun x => opt (p x || inS s x)) c (sweep l s) ∧ ∀ q ∈ sweep l s, q.1 ≤ s.1
  | [], p, c, hc, h, _ => by
    have h0 : ∀ x, c ≤ x → p x = false := fun x hx => (opt_none _).1 (h x hx)
    refine ⟨⟨hc, hs, fun x h1 h2 => ?_, fun x h1 h2 => ?_, ?_, fun x hx => ?_⟩, by simp [sweep]⟩
    · rw [opt_none, h0 x h1]; simp [inS]; omega
    · rw [opt_some]; simp [inS]; omega
    · rw [opt_ne, h0 s.2.1 (by omega)]; simp [inS]
    · rw [opt_none, h0 x (by omega)]; simp [inS]; omega
  | [q], p, c, hc, h, hq => by
    obtain ⟨a1, a2, a3, a4, a5, a6⟩ := h
    have hq1 := hq q (by simp)
    have h3 : ∀ x, c ≤ x → x < q.1 → p x = false := fun x h1 h2 => (opt_none _).1 (a3 x h1 h2)
    have h4 : ∀ x, q.1 ≤ x → x < q.2.1 → p x = true := fun x h1 h2 => (opt_some _).1 (a4 x h1 h2)
    have h6 : ∀ x, q.2.1 ≤ x → p x = false := fun x hx => (opt_none _).1 (a6 x hx)
    by_cases hm : s.1 ≤ q.2.1
    · have e1 : sweep [q] s = [(q.1, max q.2.1 s.2.1, ())] := by simp [sweep, hm]
      rw [e1]
      refine ⟨⟨a1, by simp only; omega, fun x h1 h2 => ?_, fun x h1 h2 => ?_, ?_, fun x hx => ?_⟩, by simp [hq1]⟩
      · simp only at h2; rw [opt_none, h3 x h1 h2]; simp [inS]; omega
      · simp only at h1 h2
        rw [opt_some]
        by_cases h5 : x < q.2.1
        · simp [h4 x h1 h5]
        · simp [inS]; right; omega
      · simp only; rw [opt_ne, h6 _ (by omega)]; simp [inS]; omega
      · simp only at hx; rw [opt_none, h6 x (by omega)]; simp [inS]; omega
    · have e1 : sweep [q] s = [q, s] := by simp [sweep, hm]
      rw [e1]
      refine ⟨⟨a1, a2, fun x h1 h2 => ?_, fun x h1 h2 => ?_, ?_, by omega, hs, fun x h1 h2 => ?_, fun x h1 h2 => ?_, ?_, fun x hx => ?_⟩, by simp [hq1]⟩
      · rw [opt_none, h3 x h1 h2]; simp [inS]; omega
      · rw [opt_some, h4 x h1 h2]; simp
      · rw [opt_ne, h6 _ (by omega)]; simp [inS]; omega
      · rw [opt_none, h6 x h1]; simp [inS]; omega
      · rw [opt_some]; simp [inS]; right; omega
      · rw [opt_ne, h6 _ (by omega)]; simp [inS]
      · rw [opt_none, h6 x (by omega)]; simp [inS]; omega
  | q :: q' :: t, p, c, hc, h, hq => by
    obtain ⟨a1, a2, a3, a4, a5, a6⟩ := h
    have hq' := hq q' (by simp)
    have hlow := a6.1
    have ⟨i1, i2⟩ := sweep_segF s hs (c := q.2.1) (by omega) a6 (fun r hr => hq r (by simp [List.mem_cons.1 hr]))
    rw [sweep_cons]
    refine ⟨⟨a1, a2, fun x h1 h2 => ?_, fun x h1 h2 => ?_, ?_, i1⟩, fun r hr => ?_⟩
    · rw [opt_none, (opt_none _).1 (a3 x h1 h2)]; simp [inS]; omega
    · rw [opt_some, (opt_some _).1 (a4 x h1 h2)]; simp
    · have h5 : p q.2.1 = false := by
        exact (opt_ne _ _).1 a5
      have h7 : q.2.1 < s.1 := by
        rcases Int.lt_or_eq_of_le (Int.le_trans hlow hq') with h | h
        · exact h
        · have h8 := a6.2.2.2.1 q'.1 (Int.le_refl _) a6.2.1
          have h9 : q'.1 = q.2.1 := by omega
          rw [h9, opt_some] at h8
          rw [h8] at h5; cases h5
      rw [opt_ne, h5]; simp [inS]; omega
    · rcases List.mem_cons.1 hr with rfl | hr
      · exact hq r (by simp)
      · exact i2 r hr
/-- The spans of a row, out of spans in the order of their beginnings. -/
theorem sweep_segs : ∀ (ss : List (Sg Unit)) (l : List (Sg Unit)) (p : Int → Bool), (∀ s ∈ ss, s.1 < s.2.1) → ss.Pairwise (fun a b => a.1 ≤ b.1) → Segs (fun x => opt (p x)) l → (∀ q ∈ l, ∀ s ∈ ss, q.1 ≤ s.1) → Segs (fun x => opt (p x || ss.any (inS · x))) (ss.foldl sweep l)
  | [], l, p, _, _, h, _ => by simpa using h
  | s :: ss, l, p, hs, hp, h, hl => by
    obtain ⟨c, hc, hf⟩ := h
    obtain ⟨p1, p2⟩ := List.pairwise_cons.1 hp
    have hs1 := hs s (by simp)
    obtain ⟨d, hd1, hd2⟩ : ∃ d : Int, d ≤ c ∧ d ≤ s.1 := ⟨min c s.1, by omega, by omega⟩
    have hf' := hf.down hd1 fun x _ hx => hc x hx
    have ⟨i1, i2⟩ := sweep_segF s hs1 hd2 hf' (fun q hq => hl q hq s (by simp))
    have := sweep_segs ss (sweep l s) (fun x => p x || inS s x) (fun q hq => hs q (by simp [hq])) p2 ⟨d, fun x hx => by rw [opt_none, (opt_none _).1 (hc x (by omega))]; simp [inS]; omega, i1⟩ (fun q hq r hr => Int.le_trans (i2 q hq) (p1 r hr))
    simpa [Bool.or_assoc] using this
theorem sweep_len (l : List (Sg Unit)) (s : Sg Unit) : (sweep l s).length ≤ l.length + 1 := by
  unfold sweep
  cases h : l.getLast? with
  | none => simp
  | some q =>
    simp only
    split
    · simp
    · simp
theorem sweeps_len : ∀ (ss l : List (Sg Unit)), (ss.foldl sweep l).length ≤ l.length + ss.length
  | [], l => by simp
  | s :: ss, l => by
    have h1 := sweeps_len ss (sweep l s)
    have h2 := sweep_len l s
    simp at h1 ⊢
    omega

/-- A rectangle. -/
structure R4 where
  l : Int
  b : Int
  r : Int
  t : Int
  deriving DecidableEq
instance : Inhabited R4 := ⟨⟨0, 0, 0, 0⟩⟩
/-- Whether a rectangle has a square. -/
def R4.has (q : R4) (x y : Int) : Bool := decide (q.l ≤ x) && decide (x < q.r) && decide (q.b ≤ y) && decide (y < q.t)
/-- Whether one of some rectangles has a square. -/
def inL (l : List R4) (x y : Int) : Bool := l.any fun q => q.has x y
/-- The rectangles of bands. -/
def flat (bs : List (Sg (List (Sg Unit)))) : List R4 := bs.flatMap fun b => b.2.2.map fun s => ⟨s.1, b.1, s.2.1, b.2.1⟩
/-- The canonical rectangles of a set of squares. -/
def Canon (P : Int → Int → Bool) (R : List R4) : Prop :=
  ∃ (row : Int → List (Sg Unit)) (bs : List (Sg (List (Sg Unit)))), (∀ y, Segs (fun x => opt (P x y)) (row y)) ∧ Segs (fun y => nz (row y)) bs ∧ R = flat bs
theorem Canon.uniq {P : Int → Int → Bool} {R S : List R4} (h : Canon P R) (h' : Canon P S) : R = S := by
  obtain ⟨row, bs, h1, h2, rfl⟩ := h
  obtain ⟨row', bs', h1', h2', rfl⟩ := h'
  have e : row = row' := funext fun y => (h1 y).uniq (h1' y)
  subst e
  rw [h2.uniq h2']
theorem Canon.congr {P Q : Int → Int → Bool} {R : List R4} (h : Canon P R) (hq : ∀ x y, P x y = Q x y) : Canon Q R := by
  have e : P = Q := funext fun x => funext fun y => hq x y
  exact e ▸ h
theorem nz_some {V : Type} {v u : List V} (h : nz v = some u) : v = u ∧ u ≠ [] := by
  unfold nz at h
  split at h
  · cases h
  · simp_all
theorem Canon.mem {P : Int → Int → Bool} {R : List R4} (h : Canon P R) (x y : Int) : inL R x y = P x y := by
  obtain ⟨row, bs, h1, h2, rfl⟩ := h
  rw [Bool.eq_iff_iff]
  have h3 := (h1 y).mem x ()
  rw [opt_some] at h3
  rw [h3]
  simp only [inL, flat, List.any_flatMap, List.any_map, List.any_eq_true, Function.comp, R4.has, Bool.and_eq_true, decide_eq_true_eq]
  constructor
  · rintro ⟨b, hb, s, hs, ⟨⟨h4, h5⟩, h6⟩, h7⟩
    have h8 := (h2.mem y b.2.2).2 ⟨b, hb, h6, h7, rfl⟩
    rw [(nz_some h8).1]
    exact ⟨s, hs, h4, h5, trivial⟩
  · rintro ⟨s, hs, h4, h5, _⟩
    have h6 : nz (row y) = some (row y) := by
      unfold nz
      rw [if_neg]
      intro h
      rw [List.isEmpty_iff.1 h] at hs
      simp at hs
    obtain ⟨b, hb, h7, h8, h9⟩ := (h2.mem y (row y)).1 h6
    exact ⟨b, hb, s, by rw [h9]; exact hs, ⟨⟨h4, h5⟩, h7⟩, h8⟩
/-- Where its squares lie, its rectangles lie. -/
theorem Canon.bd {P : Int → Int → Bool} {R : List R4} (h : Canon P R) (a b c d : Int) (hP : ∀ x y, P x y = true → a ≤ x ∧ x < b ∧ c ≤ y ∧ y < d) : ∀ q ∈ R, a ≤ q.l ∧ q.l < q.r ∧ q.r ≤ b ∧ c ≤ q.b ∧ q.b < q.t ∧ q.t ≤ d := by
  have hm := h.mem
  obtain ⟨row, bs, h1, h2, rfl⟩ := h
  intro q hq
  have key : q.l < q.r ∧ q.b < q.t := by
    simp only [flat, List.mem_flatMap, List.mem_map] at hq
    obtain ⟨B, hB, s, hs, rfl⟩ := hq
    have h3 := h2.pos B hB
    have h4 := (h2.mem B.1 B.2.2).2 ⟨B, hB, Int.le_refl _, h3, rfl⟩
    rw [← (nz_some h4).1] at hs
    exact ⟨(h1 B.1).pos s hs, h3⟩
  have h3 : inL (flat bs) q.l q.b = true := by
    simp only [inL, List.any_eq_true]
    exact ⟨q, hq, by simp [R4.has]; omega⟩
  have h4 : inL (flat bs) (q.r - 1) (q.t - 1) = true := by
    simp only [inL, List.any_eq_true]
    exact ⟨q, hq, by simp [R4.has]; omega⟩
  rw [hm] at h3 h4
  have := hP _ _ h3
  have := hP _ _ h4
  omega
end Go.Proofs.YtpcfhcdbibklcaaGreat
