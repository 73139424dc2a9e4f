/- Plain law: the border of a set of squares: what the program adds up, and what the reference adds up, is the number of pairs of neighbouring squares of which one alone is in the set. -/
import Derived.Test.YtpcfhcdbibklcaaGreatGt
namespace Go.Proofs.YtpcfhcdbibklcaaGreat
set_option linter.unusedVariables false
set_option linter.unusedSimpArgs false

/-- A sum along a list. -/
def sumL {α : Type} (g : α → Int) (l : List α) : Int := (l.map g).sum
theorem sumL_nil {α : Type} (g : α → Int) : sumL g [] = 0 := rfl
theorem sumL_cons {α : Type} (g : α → Int) (a : α) (l : List α) : sumL g (a :: l) = g a + sumL g l := by simp [sumL]
theorem sumL_app {α : Type} (g : α → Int) (l m : List α) : sumL g (l ++ m) = sumL g l + sumL g m := by simp [sumL]
theorem sumL_map {α β : Type} (g : β → Int) (f : α → β) (l : List α) : sumL g (l.map f) = sumL (fun a => g (f a)) l := by
  induction l with
  | nil => rfl
  | cons a t ih => rw [List.map_cons, sumL_cons, sumL_cons, ih]
theorem sumL_flat {α β : Type} (g : β → Int) (f : α → List β) (l : List α) : sumL g (l.flatMap f) = sumL (fun a => sumL g (f a)) l := by
  induction l with
  | nil => rfl
  | cons a t ih => rw [List.flatMap_cons, sumL_app, sumL_cons, ih]
theorem sumL_congr {α : Type} {g h : α → Int} {l : List α} (e : ∀ a ∈ l, g a = h a) : sumL g l = sumL h l := by
  induction l with
  | nil => rfl
  | cons a t ih => rw [sumL_cons, sumL_cons, e a (by simp), ih fun b hb => e b (by simp [hb])]
theorem sumL_plus {α : Type} (g h : α → Int) (l : List α) : sumL (fun a => g a + h a) l = sumL g l + sumL h l := by
  induction l with
  | nil => rfl
  | cons a t ih => rw [sumL_cons, sumL_cons, sumL_cons, ih]; omega
theorem sumL_zero {α : Type} (l : List α) : sumL (fun _ => 0) l = 0 := by
  induction l with
  | nil => rfl
  | cons a t ih => rw [sumL_cons, ih]; rfl
theorem sumL_swap {α β : Type} (f : α → β → Int) (m : List β) : ∀ (l : List α), sumL (fun a => sumL (fun b => f a b) m) l = sumL (fun b => sumL (fun a => f a b) l) m
  | [] => by
    rw [sumL_nil]
    exact (sumL_zero m).symm
  | a :: t => by
    rw [sumL_cons, sumL_swap f m t]
    rw [← sumL_plus]
    exact sumL_congr fun b _ => (sumL_cons (fun a => f a b) a t).symm
theorem sumL_const {α : Type} (k : Int) (l : List α) : sumL (fun _ => k) l = l.length * k := by
  induction l with
  | nil => simp [sumL]
  | cons a t ih => rw [sumL_cons, ih, List.length_cons, show ((t.length + 1 : Nat) : Int) = (t.length : Int) + 1 from by omega, Int.add_mul]; omega

/-- What is 0 outside an ascending list adds up along it. -/
theorem sumI_list (g : Int → Int) : ∀ (n : Nat) (l : List Int) (lo : Int), l.Pairwise (· < ·) → (∀ k ∈ l, lo ≤ k ∧ k < lo + n) → (∀ x, lo ≤ x → x < lo + n → x ∉ l → g x = 0) → sumI g lo n = sumL g l
  | 0, l, lo, hp, hb, h0 => by
    cases l with
    | nil => rfl
    | cons k t => have := hb k (by simp); omega
  | n + 1, [], lo, hp, hb, h0 => by
    rw [sumI_const g 0 (n + 1) lo fun x h1 h2 => h0 x h1 h2 (by simp)]
    simp [sumL]
  | n + 1, k :: t, lo, hp, hb, h0 => by
    have hk := hb k (by simp)
    have hpc := List.pairwise_cons.1 hp
    simp only [sumI]
    by_cases e : k = lo
    · subst e
      rw [sumI_list g n t (k + 1) hpc.2 (fun j hj => by have := hpc.1 j hj; have := hb j (by simp [hj]); omega) (fun x h1 h2 h3 => h0 x (by omega) (by omega) (by
        intro hm
        rcases List.mem_cons.1 hm with e | hm
        · omega
        · exact h3 hm)), sumL_cons]
    · rw [sumI_list g n (k :: t) (lo + 1) hp (fun j hj => by
        have h1 := hb j hj
        rcases List.mem_cons.1 hj with rfl | hj
        · omega
        · have := hpc.1 j hj; omega) (fun x h1 h2 h3 => h0 x (by omega) (by omega) h3)]
      rw [h0 lo (Int.le_refl _) (by omega) (by
        intro hm
        rcases List.mem_cons.1 hm with e' | hm
        · exact e e'.symm
        · have := hpc.1 lo hm; omega)]
      omega
theorem Steady.tail {V : Type} {f : Int → V} {x : Int} {r : List Int} (h : Steady f (x :: r)) (hp : (x :: r).Pairwise (· < ·)) : Steady f r := fun a z ha haz hk => h a z (by simp [ha]) haz fun k hk' => by
  rcases List.mem_cons.1 hk' with rfl | hk'
  · exact .inl (Int.le_of_lt ((List.pairwise_cons.1 hp).1 a ha))
  · exact hk k hk'
/-- The sum of a step function, step by step. -/
def stepL (g : Int → Int) : List Int → Int
  | x :: y :: r => (y - x) * g x + stepL g (y :: r)
  | _ => 0
theorem stepL_from (g : Int → Int) : ∀ (r : List Int) (x : Int) (n : Nat), (x :: r).Pairwise (· < ·) → Steady g (x :: r) → (∀ k ∈ x :: r, k ≤ x + n) → (∀ z, (∀ k ∈ x :: r, k ≤ z) → g z = 0) → sumI g x n = stepL g (x :: r)
  | [], x, n, hp, hs, hb, h0 => by
    rw [sumI_const g 0 n x fun z h1 h2 => h0 z fun k hk => by simp at hk; omega]
    simp [stepL]
  | y :: r, x, n, hp, hs, hb, h0 => by
    have hpc := List.pairwise_cons.1 hp
    have hxy := hpc.1 y (by simp)
    have hyn := hb y (by simp)
    obtain ⟨p, hp'⟩ := Int.eq_ofNat_of_zero_le (show 0 ≤ y - x by omega)
    obtain ⟨m, hm⟩ := Int.eq_ofNat_of_zero_le (show 0 ≤ x + n - y by omega)
    have e : n = p + m := by omega
    rw [e, sumI_app, show x + (p : Int) = y by omega, stepL_from g r y m hpc.2 (hs.tail hp) (fun k hk => by have := hb k (by simp only [List.mem_cons] at hk ⊢; exact .inr hk); omega) (fun z hz => h0 z fun k hk => by
      rcases List.mem_cons.1 hk with rfl | hk
      · have := hz y (by simp); omega
      · exact hz k hk)]
    rw [sumI_const g (g x) p x fun z h1 h2 => hs x z (by simp) h1 fun k hk => by
      rcases List.mem_cons.1 hk with rfl | hk
      · exact .inl (Int.le_refl _)
      · rcases List.mem_cons.1 hk with rfl | hk
        · exact .inr (by omega)
        · have := (List.pairwise_cons.1 hpc.2).1 k hk; exact .inr (by omega)]
    simp only [stepL]
    rw [hp']
theorem stepL_sum (g : Int → Int) (cuts : List Int) (n : Nat) (hp : cuts.Pairwise (· < ·)) (hs : Steady g cuts) (hb : ∀ k ∈ cuts, 0 ≤ k ∧ k ≤ n) (ho : ∀ z, (∀ k ∈ cuts, z < k) ∨ (∀ k ∈ cuts, k ≤ z) → g z = 0) : sumI g 0 n = stepL g cuts := by
  cases cuts with
  | nil => rw [sumI_const g 0 n 0 fun z _ _ => ho z (.inl (by simp))]; simp [stepL]
  | cons x r =>
    have hx := hb x (by simp)
    obtain ⟨p, hp'⟩ := Int.eq_ofNat_of_zero_le hx.1
    obtain ⟨m, hm⟩ := Int.eq_ofNat_of_zero_le (show 0 ≤ (n : Int) - x by omega)
    have e : n = p + m := by omega
    rw [e, sumI_app, show (0 : Int) + (p : Int) = x by omega, stepL_from g r x m hp hs (fun k hk => by have := hb k hk; omega) (fun z hz => ho z (.inr hz))]
    rw [sumI_const g 0 p 0 fun z h1 h2 => ho z (.inl fun k hk => by
      rcases List.mem_cons.1 hk with rfl | hk
      · omega
      · have := (List.pairwise_cons.1 hp).1 k hk; omega)]
    simp
theorem stepL_range (g : Int → Int) : ∀ (l : List Int), stepL g l = sumL (fun i => (l.getD (i + 1) 0 - l.getD i 0) * g (l.getD i 0)) (List.range (l.length - 1))
  | [] => rfl
  | [x] => rfl
  | x :: y :: r => by
    have h := stepL_range g (y :: r)
    rw [show (x :: y :: r).length - 1 = ((y :: r).length - 1) + 1 from rfl, List.range_succ_eq_map, sumL_cons, sumL_map]
    simp only [stepL, h]
    rfl
/-- The sum along an ascending list but its last one. -/
theorem sumL_init (g : Int → Int) (l : List Int) : sumL (fun i => g (l.getD i 0)) (List.range l.length) = sumL g l := by
  induction l with
  | nil => rfl
  | cons a t ih =>
    rw [List.length_cons, List.range_succ_eq_map, sumL_cons, sumL_map, sumL_cons, ← ih]
    rfl
theorem sumL_range_succ (g : Nat → Int) (n : Nat) : sumL g (List.range (n + 1)) = sumL g (List.range n) + g n := by rw [List.range_succ, sumL_app]; simp [sumL]

theorem segs_from0 {V : Type} {f : Int → Option V} {l : List (Sg V)} (h : Segs f l) (h0 : ∀ x, x < 0 → f x = none) : SegF f 0 l := by
  obtain ⟨c, h1, h2⟩ := h
  rcases Int.le_total c 0 with hc | hc
  · exact h2.up hc h0
  · exact h2.down hc fun x _ hx => h1 x hx
theorem SegF.le_end {p : Int → Bool} {s : Sg Unit} {t : List (Sg Unit)} {c : Int} (h : SegF (fun x => opt (p x)) c (s :: t)) (n : Nat) (hn : ∀ x, c + n ≤ x → p x = false) : s.2.1 ≤ c + n := by
  obtain ⟨a1, a2, a3, a4, a5, a6⟩ := h
  rcases Int.lt_or_le (c + n) s.2.1 with h | h
  · have e1 := a4 (s.2.1 - 1) (by omega) (by omega)
    rw [opt_some] at e1
    rw [hn (s.2.1 - 1) (by omega)] at e1
    cases e1
  · exact h
theorem SegF.ends {p : Int → Bool} : ∀ {l : List (Sg Unit)} {c : Int}, SegF (fun x => opt (p x)) c l → ∀ n : Nat, (∀ x, c + n ≤ x → p x = false) → sumI (fun x => ind (p x && !p (x + 1))) c n = l.length
  | [], c, h, n, hn => by
    rw [sumI_const _ 0 n c fun x h1 h2 => by rw [(opt_none _).1 (h x h1)]; rfl]
    simp
  | s :: t, c, h, n, hn => by
    have h1 := h.le_end n hn
    obtain ⟨a1, a2, a3, a4, a5, a6⟩ := h
    obtain ⟨m, hm⟩ := Int.eq_ofNat_of_zero_le (show 0 ≤ s.2.1 - 1 - c by omega)
    obtain ⟨r, hr⟩ := Int.eq_ofNat_of_zero_le (show 0 ≤ c + n - s.2.1 by omega)
    have e : n = m + (1 + r) := by omega
    have hend : p s.2.1 = false := (opt_ne _ _).1 a5
    have hlast : p (s.2.1 - 1) = true := (opt_some _).1 (a4 (s.2.1 - 1) (by omega) (by omega))
    rw [e, sumI_app, sumI_app, show c + (m : Int) = s.2.1 - 1 by omega, show s.2.1 - 1 + ((1 : Nat) : Int) = s.2.1 by omega, SegF.ends a6 r (fun x hx => hn x (by omega))]
    rw [sumI_const _ 0 m c fun x h2 h3 => by
      by_cases hx : x < s.1
      · rw [(opt_none _).1 (a3 x h2 hx)]; rfl
      · rw [(opt_some _).1 (a4 (x + 1) (by omega) (by omega))]; simp [ind]]
    simp only [sumI, List.length_cons]
    rw [hlast, show s.2.1 - 1 + 1 = s.2.1 by omega, hend]
    simp [ind]
    omega
theorem SegF.starts {p : Int → Bool} : ∀ {l : List (Sg Unit)} {c : Int}, SegF (fun x => opt (p x)) c l → (p c = false ∨ p (c - 1) = false) → ∀ n : Nat, (∀ x, c + n ≤ x → p x = false) → sumI (fun x => ind (p x && !p (x - 1))) c n = l.length
  | [], c, h, h0, n, hn => by
    rw [sumI_const _ 0 n c fun x h1 h2 => by rw [(opt_none _).1 (h x h1)]; rfl]
    simp
  | s :: t, c, h, h0, n, hn => by
    have h1 := h.le_end n hn
    obtain ⟨a1, a2, a3, a4, a5, a6⟩ := h
    obtain ⟨m, hm⟩ := Int.eq_ofNat_of_zero_le (show 0 ≤ s.1 - c by omega)
    obtain ⟨q, hq⟩ := Int.eq_ofNat_of_zero_le (show 0 ≤ s.2.1 - (s.1 + 1) by omega)
    obtain ⟨r, hr⟩ := Int.eq_ofNat_of_zero_le (show 0 ≤ c + n - s.2.1 by omega)
    have e : n = m + (1 + (q + r)) := by omega
    have hend : p s.2.1 = false := (opt_ne _ _).1 a5
    have hfst : p s.1 = true := (opt_some _).1 (a4 s.1 (by omega) (by omega))
    have hbef : p (s.1 - 1) = false := by
      by_cases hc : c < s.1
      · exact (opt_none _).1 (a3 (s.1 - 1) (by omega) (by omega))
      · have : s.1 = c := by omega
        rcases h0 with h0 | h0
        · rw [← this, hfst] at h0; cases h0
        · rw [this]; exact h0
    rw [e, sumI_app, sumI_app, sumI_app, show c + (m : Int) = s.1 by omega, show s.1 + ((1 : Nat) : Int) = s.1 + 1 by omega, show s.1 + 1 + (q : Int) = s.2.1 by omega, SegF.starts a6 (.inl hend) r (fun x hx => hn x (by omega))]
    rw [sumI_const _ 0 m c fun x h2 h3 => by rw [(opt_none _).1 (a3 x h2 (by omega))]; rfl]
    rw [sumI_const _ 0 q (s.1 + 1) fun x h2 h3 => by rw [(opt_some _).1 (a4 (x - 1) (by omega) (by omega))]; simp [ind]]
    simp only [sumI, List.length_cons]
    rw [hfst, hbef]
    simp [ind]
    omega

/-- The four neighbours: below, right, above, left. -/
def D1 (P : Int → Int → Bool) (x y : Int) : Int := ind (P x y && !P x (y - 1))
def D2 (P : Int → Int → Bool) (x y : Int) : Int := ind (P x y && !P (x + 1) y)
def D3 (P : Int → Int → Bool) (x y : Int) : Int := ind (P x y && !P x (y + 1))
def D4 (P : Int → Int → Bool) (x y : Int) : Int := ind (P x y && !P (x - 1) y)
def all2 (F : Int → Int → Int) (n : Nat) : Int := sumI (fun y => sumI (fun x => F x y) 0 n) 0 n
/-- The border. -/
def bordT (P : Int → Int → Bool) (n : Nat) : Int := all2 (D1 P) n + all2 (D2 P) n + all2 (D3 P) n + all2 (D4 P) n
/-- A set of squares within the first n by n ones, that changes at some lines alone. -/
structure Grid (P : Int → Int → Bool) (n : Nat) : Prop where
  bd : ∀ x y, P x y = true → 0 ≤ x ∧ x < n ∧ 0 ≤ y ∧ y < n
theorem Grid.out {P : Int → Int → Bool} {n : Nat} (h : Grid P n) (x y : Int) (hx : x < 0 ∨ (n : Int) ≤ x ∨ y < 0 ∨ (n : Int) ≤ y) : P x y = false := by
  cases hq : P x y with
  | false => rfl
  | true => have := h.bd x y hq; omega
theorem sumI_shift (g : Int → Int) : ∀ (n : Nat) (lo : Int), sumI (fun y => g (y - 1)) (lo + 1) n = sumI g lo n
  | 0, _ => rfl
  | n + 1, lo => by simp only [sumI]; rw [sumI_shift g n (lo + 1), show lo + 1 - 1 = lo by omega]
/-- Where a set changes from row to row. -/
theorem rows_low {P : Int → Int → Bool} {n : Nat} (h : Grid P n) (ys : List Int) (hp : ys.Pairwise (· < ·)) (hb : ∀ k ∈ ys, 0 ≤ k ∧ k ≤ n) (hst : ∀ y, y ∉ ys → ∀ x, P x y = P x (y - 1)) : sumL (fun y => sumI (fun x => D1 P x y) 0 n) ys = all2 (D1 P) n := by
  have h1 := sumI_list (fun y => sumI (fun x => D1 P x y) 0 n) (n + 1) ys 0 hp (fun k hk => by have := hb k hk; omega) (fun y _ _ hy => by
    show sumI (fun x => D1 P x y) 0 n = 0
    rw [sumI_const _ 0 n 0 fun x _ _ => by unfold D1; rw [hst y hy x]; cases P x (y - 1) <;> rfl]
    simp)
  rw [← h1, sumI_snoc]
  have h2 : sumI (fun x => D1 P x (0 + (n : Int))) 0 n = 0 := by
    rw [sumI_const _ 0 n 0 fun x _ _ => by unfold D1; rw [h.out x (0 + n) (by omega)]; rfl]
    simp
  rw [h2]
  unfold all2
  omega
theorem rows_high {P : Int → Int → Bool} {n : Nat} (h : Grid P n) (ys : List Int) (hp : ys.Pairwise (· < ·)) (hb : ∀ k ∈ ys, 0 ≤ k ∧ k ≤ n) (hst : ∀ y, y ∉ ys → ∀ x, P x y = P x (y - 1)) : sumL (fun y => sumI (fun x => D3 P x (y - 1)) 0 n) ys = all2 (D3 P) n := by
  have h1 := sumI_list (fun y => sumI (fun x => D3 P x (y - 1)) 0 n) (n + 1) ys 0 hp (fun k hk => by have := hb k hk; omega) (fun y _ _ hy => by
    show sumI (fun x => D3 P x (y - 1)) 0 n = 0
    rw [sumI_const _ 0 n 0 fun x _ _ => by unfold D3; rw [show y - 1 + 1 = y by omega, hst y hy x]; cases P x (y - 1) <;> rfl]
    simp)
  rw [← h1]
  simp only [sumI]
  have h2 : sumI (fun x => D3 P x (0 - 1)) 0 n = 0 := by
    rw [sumI_const _ 0 n 0 fun x _ _ => by unfold D3; rw [h.out x (0 - 1) (by omega)]; rfl]
    simp
  rw [h2, sumI_shift (fun y => sumI (fun x => D3 P x y) 0 n) n 0]
  unfold all2
  omega
end Go.Proofs.YtpcfhcdbibklcaaGreat
