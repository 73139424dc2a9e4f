/- Plain law: regions combined: bounds, how many squares, the laws of sets (regions). -/
import Derived.Test.YtpcfhcdbibklcaaGreatR8
namespace Go.Proofs.YtpcfhcdbibklcaaGreat
open Go.RowKit
set_option linter.unusedVariables false

/-- A sum over n numbers from lo on. -/
def sumI (g : Int → Int) : Int → Nat → Int
  | _, 0 => 0
  | lo, n + 1 => g lo + sumI g (lo + 1) n
theorem sumI_app (g : Int → Int) : ∀ (a b : Nat) (lo : Int), sumI g lo (a + b) = sumI g lo a + sumI g (lo + a) b
  | 0, b, lo => by simp [sumI]
  | a + 1, b, lo => by
    have h := sumI_app g a b (lo + 1)
    rw [show a + 1 + b = (a + b) + 1 from by omega]
    simp only [sumI]
    rw [h, show lo + 1 + (a : Int) = lo + ((a + 1 : Nat) : Int) from by omega]
    omega
theorem sumI_snoc (g : Int → Int) (lo : Int) (n : Nat) : sumI g lo (n + 1) = sumI g lo n + g (lo + n) := by
  rw [sumI_app]; simp [sumI]
theorem sumI_const (g : Int → Int) (k : Int) : ∀ (n : Nat) (lo : Int), (∀ x, lo ≤ x → x < lo + n → g x = k) → sumI g lo n = n * k
  | 0, lo, h => by simp [sumI]
  | n + 1, lo, h => by
    have h1 := sumI_const g k n (lo + 1) fun x h1 h2 => h x (by omega) (by omega)
    have h2 := h lo (Int.le_refl _) (by omega)
    simp only [sumI]
    rw [h1, h2, show ((n + 1 : Nat) : Int) = (n : Int) + 1 from by omega, Int.add_mul]
    omega
theorem sumI_congr (g h : Int → Int) : ∀ (n : Nat) (lo : Int), (∀ x, lo ≤ x → x < lo + n → g x = h x) → sumI g lo n = sumI h lo n
  | 0, lo, _ => rfl
  | n + 1, lo, e => by
    simp only [sumI]
    rw [e lo (Int.le_refl _) (by omega), sumI_congr g h n (lo + 1) fun x h1 h2 => e x (by omega) (by omega)]
theorem sumI_plus (g h : Int → Int) : ∀ (n : Nat) (lo : Int), sumI (fun x => g x + h x) lo n = sumI g lo n + sumI h lo n
  | 0, _ => rfl
  | n + 1, lo => by simp only [sumI]; rw [sumI_plus g h n (lo + 1)]; omega
theorem sumI_swap (f : Int → Int → Int) (m : Nat) (c : Int) : ∀ (n : Nat) (lo : Int), sumI (fun y => sumI (fun x => f x y) lo n) c m = sumI (fun x => sumI (fun y => f x y) c m) lo n
  | 0, lo => by
    show sumI (fun _ => 0) c m = 0
    rw [sumI_const (fun _ => 0) 0 m c fun _ _ _ => rfl]; simp
  | n + 1, lo => by
    have h := sumI_swap f m c n (lo + 1)
    simp only [sumI]
    rw [sumI_plus, h]

theorem SegF.sum {V : Type} {f : Int → Option V} (G : Option V → Int) (hG : G none = 0) : ∀ {l : List (Sg V)} {c : Int}, SegF f c l → ∀ n : Nat, (∀ x, c + n ≤ x → f x = none) → sumI (fun x => G (f x)) c n = (l.map fun s => (s.2.1 - s.1) * G (some s.2.2)).sum
  | [], c, h, n, hn => by
    rw [sumI_const _ 0 n c fun x h1 h2 => by rw [h x h1, hG]]; simp
  | s :: t, c, h, n, hn => by
    obtain ⟨a1, a2, a3, a4, a5, a6⟩ := h
    have h1 : s.2.1 ≤ c + n := by
      rcases Int.lt_or_le (c + n) s.2.1 with h | h
      · have e1 := a4 (s.2.1 - 1) (by omega) (by omega)
        rw [hn (s.2.1 - 1) (by omega)] at e1
        cases e1
      · exact h
    obtain ⟨p, hp⟩ := Int.eq_ofNat_of_zero_le (show 0 ≤ s.1 - c by omega)
    obtain ⟨q, hq⟩ := Int.eq_ofNat_of_zero_le (show 0 ≤ s.2.1 - s.1 by omega)
    obtain ⟨r, hr⟩ := Int.eq_ofNat_of_zero_le (show 0 ≤ c + n - s.2.1 by omega)
    have e : n = p + (q + r) := by omega
    have e1 : c + (p : Int) = s.1 := by omega
    have e2 : s.1 + (q : Int) = s.2.1 := by omega
    rw [e, sumI_app, sumI_app, e1, e2, sumI_const _ 0 p c fun x h1 h2 => by rw [a3 x h1 (by omega), hG], sumI_const _ (G (some s.2.2)) q s.1 fun x h1 h2 => by rw [a4 x h1 (by omega)], SegF.sum G hG a6 r fun x hx => hn x (by omega), List.map_cons, List.sum_cons, hq]
    omega
theorem SegF.up {V : Type} {f : Int → Option V} {l : List (Sg V)} {c d : Int} (h : SegF f c l) (hd : c ≤ d) (hn : ∀ x, x < d → f x = none) : SegF f d l := by
  cases l with
  | nil => intro x hx; exact h x (by omega)
  | cons s t =>
    obtain ⟨a1, a2, a3, a4, a5, a6⟩ := h
    refine ⟨?_, a2, fun x h1 h2 => a3 x (by omega) h2, a4, a5, a6⟩
    rcases Int.lt_or_le s.1 d with h | h
    · have := a4 s.1 (Int.le_refl _) a2
      rw [hn s.1 h] at this; cases this
    · exact h
theorem Segs.sum {V : Type} {f : Int → Option V} {l : List (Sg V)} (h : Segs f l) (G : Option V → Int) (hG : G none = 0) (lo : Int) (n : Nat) (h0 : ∀ x, x < lo → f x = none) (h1 : ∀ x, lo + n ≤ x → f x = none) : sumI (fun x => G (f x)) lo n = (l.map fun s => (s.2.1 - s.1) * G (some s.2.2)).sum := by
  obtain ⟨c, hc, hl⟩ := h
  refine SegF.sum G hG (l := l) (c := lo) ?_ n h1
  by_cases hcl : lo ≤ c
  · exact hl.down hcl fun x _ hx => hc x hx
  · exact hl.up (by omega) h0
theorem segs_in {p : Int → Bool} {l : List (Sg Unit)} (h : Segs (fun x => opt (p x)) l) (s : Int) (hp : ∀ x, p x = true → 0 ≤ x ∧ x < s) : ∀ q ∈ l, 0 ≤ q.1 ∧ q.1 < q.2.1 ∧ q.2.1 ≤ s := by
  intro q hq
  have h0 := h.pos q hq
  have h1 := (h.mem q.1 q.2.2).2 ⟨q, hq, Int.le_refl _, h0, rfl⟩
  have h2 := (h.mem (q.2.1 - 1) q.2.2).2 ⟨q, hq, by omega, by omega, rfl⟩
  rw [opt_some] at h1 h2
  have := hp _ h1
  have := hp _ h2
  omega

/-- How wide spans are. -/
def widthP (v : List (Sg Unit)) : Int := (v.map fun s => s.2.1 - s.1).sum
def ind (b : Bool) : Int := if b then 1 else 0
theorem sizeP_sum (l : List R4) : sizeP l = (l.map fun q => (q.r - q.l) * (q.t - q.b)).sum := by
  have key : ∀ (l : List R4) (s : Int), l.foldl (fun s q => s + (q.r - q.l) * (q.t - q.b)) s = s + (l.map fun q => (q.r - q.l) * (q.t - q.b)).sum := by
    intro l
    induction l with
    | nil => simp
    | cons q t ih => intro s; rw [List.foldl_cons, ih, List.map_cons, List.sum_cons]; omega
  unfold sizeP
  rw [key]; omega
theorem size_band (lo hi : Int) (v : List (Sg Unit)) : ((v.map fun s => (⟨s.1, lo, s.2.1, hi⟩ : R4)).map fun q => (q.r - q.l) * (q.t - q.b)).sum = (hi - lo) * widthP v := by
  induction v with
  | nil => simp [widthP]
  | cons s t ih =>
    unfold widthP at ih ⊢
    rw [List.map_cons, List.map_cons, List.sum_cons, ih, List.map_cons, List.sum_cons, Int.mul_add, Int.mul_comm (hi - lo) (s.2.1 - s.1)]
theorem size_flat (bs : List (Sg (List (Sg Unit)))) : sizeP (flat bs) = (bs.map fun b => (b.2.1 - b.1) * widthP b.2.2).sum := by
  rw [sizeP_sum]
  induction bs with
  | nil => rfl
  | cons b t ih =>
    have e : flat (b :: t) = (b.2.2.map fun s => (⟨s.1, b.1, s.2.1, b.2.1⟩ : R4)) ++ flat t := rfl
    rw [e, List.map_append, List.sum_append, ih, size_band, List.map_cons, List.sum_cons]
theorem canon_size {P : Int → Int → Bool} {R : List R4} (h : Canon P R) (n : Nat) (hP : ∀ x y, P x y = true → 0 ≤ x ∧ x < n ∧ 0 ≤ y ∧ y < n) : sumI (fun y => sumI (fun x => ind (P x y)) 0 n) 0 n = sizeP R := by
  obtain ⟨row, bs, hr, hb, rfl⟩ := h
  have hPf : ∀ x y, (x < 0 ∨ (n : Int) ≤ x ∨ y < 0 ∨ (n : Int) ≤ y) → P x y = false := fun x y hx => by
    cases hq : P x y with
    | false => rfl
    | true => have := hP x y hq; omega
  have h1 : ∀ y, sumI (fun x => ind (P x y)) 0 n = widthP (row y) := fun y => by
    have h := (hr y).sum (fun o => match o with | none => 0 | some _ => 1) rfl 0 n (fun x hx => by rw [hPf x y (.inl hx)]; rfl) (fun x hx => by rw [hPf x y (.inr (.inl (by omega)))]; rfl)
    rw [sumI_congr _ (fun x => ind (P x y)) n 0 fun x _ _ => by cases P x y <;> rfl] at h
    rw [h]; simp [widthP]
  have hrow : ∀ y, (y < 0 ∨ (n : Int) ≤ y) → row y = [] := fun y hy => segs_none (p := fun x => P x y) (fun x => hPf x y (by omega)) (hr y)
  have h2 := hb.sum (fun o => match o with | none => 0 | some v => widthP v) rfl 0 n (fun y hy => by rw [hrow y (.inl hy)]; rfl) (fun y hy => by rw [hrow y (.inr (by omega))]; rfl)
  rw [size_flat, ← h2]
  refine sumI_congr _ _ n 0 fun y _ _ => ?_
  rw [h1 y]
  cases hv : row y with
  | nil => rfl
  | cons s t => simp [nz]

/-- Bounds. -/
theorem lt_len : ∀ (l : List Int) (lo hi : Int), l.Pairwise (· < ·) → (∀ k ∈ l, lo ≤ k ∧ k ≤ hi) → lo ≤ hi + 1 → (l.length : Int) ≤ hi - lo + 1
  | [], lo, hi, _, _, h => by simp; omega
  | x :: t, lo, hi, hp, hb, h => by
    obtain ⟨h1, h2⟩ := List.pairwise_cons.1 hp
    have hx := hb x (by simp)
    have := lt_len t (x + 1) hi h2 (fun k hk => by have := h1 k hk; have := hb k (by simp [hk]); omega) (by omega)
    simp; omega
theorem inL_of {l : List R4} {q : R4} (hq : q ∈ l) (h : q.l < q.r ∧ q.b < q.t) : inL l q.l q.b = true :=
  List.any_eq_true.2 ⟨q, hq, by simp [R4.has]; omega⟩
theorem row_in {s : Int} {l : List R4} (h : InS s l) (y : Int) : ∀ q ∈ rowP l y, 0 ≤ q.1 ∧ q.1 < q.2.1 ∧ q.2.1 ≤ s :=
  segs_in (rowP_segs l y h.pos) s fun x hx => by have := h.in x y hx; omega
theorem merge_len (how : Bool → Bool → Bool) (s : Nat) (A B : List (Sg Unit)) (hA : ∀ q ∈ A, 0 ≤ q.1 ∧ q.1 < q.2.1 ∧ q.2.1 ≤ (s : Int)) (hB : ∀ q ∈ B, 0 ≤ q.1 ∧ q.1 < q.2.1 ∧ q.2.1 ≤ (s : Int)) : (mergeP how A B).length ≤ s := by
  have h1 := foldC_len (fun x => opt (how (inR A x) (inR B x))) (asc (sEdges (A ++ B))) []
  have h2 := lt_len (asc (sEdges (A ++ B))) 0 s (asc_all _).1 (fun k hk => by
    have := ((asc_all _).2.1 k).1 hk
    simp only [sEdges, List.mem_flatMap] at this
    obtain ⟨q, hq, hk⟩ := this
    have hq' : 0 ≤ q.1 ∧ q.1 < q.2.1 ∧ q.2.1 ≤ (s : Int) := by
      rcases List.mem_append.1 hq with hq | hq
      · exact hA q hq
      · exact hB q hq
    simp at hk
    rcases hk with rfl | rfl <;> omega) (by omega)
  unfold mergeP
  simp at h1
  omega
theorem merge_len2 (how : Bool → Bool → Bool) (A B : List (Sg Unit)) : (mergeP how A B).length ≤ 2 * (A.length + B.length) := by
  have h1 := foldC_len (fun x => opt (how (inR A x) (inR B x))) (asc (sEdges (A ++ B))) []
  have h2 := (asc_all (sEdges (A ++ B))).2.2
  have h3 : (sEdges (A ++ B)).length = 2 * (A ++ B).length := by
    generalize A ++ B = l
    induction l with
    | nil => rfl
    | cons q t ih => simp [sEdges] at ih ⊢; omega
  rw [List.length_append] at h3
  unfold mergeP
  simp at h1
  omega
theorem choose_len (how : Bool → Bool → Bool) (s : Nat) (a b : List R4) (ha : InS s a) (hb : InS s b) : (chooseP how a b).length ≤ s * s := by
  have h1 := flat_len s (foldC (fun y => some (mergeP how (rowP a y) (rowP b y))) (cutsP (a ++ b)) []) (foldC_val (fun v : List (Sg Unit) => v.length ≤ s) _ (fun x v hv => by injection hv with hv; subst hv; exact merge_len how s _ _ (row_in ha x) (row_in hb x)) _ _ (by simp))
  have h2 := foldC_len (fun y => some (mergeP how (rowP a y) (rowP b y))) (cutsP (a ++ b)) []
  have h3 := lt_len (cutsP (a ++ b)) 0 s (asc_all _).1 (fun k hk => by
    have := ((asc_all _).2.1 k).1 hk
    simp only [yEdges, List.mem_flatMap] at this
    obtain ⟨q, hq, hk⟩ := this
    have hq' : 0 ≤ q.b ∧ q.b < q.t ∧ q.t ≤ (s : Int) := by
      rcases List.mem_append.1 hq with hq | hq
      · have := ha q hq; omega
      · have := hb q hq; omega
    simp at hk
    rcases hk with rfl | rfl <;> omega) (by omega)
  refine Nat.le_trans h1 (Nat.mul_le_mul_right _ ?_)
  simp at h2
  omega
theorem choose_mem (how : Bool → Bool → Bool) (h0 : how false false = false) {a b : List R4} (ha : ∀ q ∈ a, q.l < q.r) (hb : ∀ q ∈ b, q.l < q.r) (x y : Int) : inL (chooseP how a b) x y = how (inL a x y) (inL b x y) :=
  (choose_canon how h0 a b ha hb).mem x y
theorem choose_in (how : Bool → Bool → Bool) (h0 : how false false = false) {s : Int} {a b : List R4} (ha : InS s a) (hb : InS s b) : InS s (chooseP how a b) := by
  intro q hq
  have h1 := (choose_canon how h0 a b ha.pos hb.pos).bd 0 s 0 s (fun x y hx => by
    cases h1 : inL a x y with
    | true => exact ha.in x y h1
    | false =>
      cases h2 : inL b x y with
      | true => exact hb.in x y h2
      | false => rw [h1, h2, h0] at hx; cases hx) q hq
  omega
/-- What is chosen of two regions within a square is one. -/
theorem choose_reg (how : Bool → Bool → Bool) (h0 : how false false = false) (s : Nat) {a b : List R4} (ha : InS s a) (hb : InS s b) : Reg s (s * s) (chooseP how a b) :=
  ⟨choose_in how h0 ha hb, (choose_canon how h0 a b ha.pos hb.pos).own (choose_in how h0 ha hb).pos, choose_len how s a b ha hb⟩

def orB (x y : Bool) : Bool := x || y
def andB (x y : Bool) : Bool := x && y
def notB (x y : Bool) : Bool := x && !y
/-- region's combine. -/
def combineP (how : Bool → Bool → Bool) (a b : List R4) : List R4 × Int := if validP a && validP b then (if 120 < (chooseP how a b).length then ([], 1) else (chooseP how a b, 0)) else ([], 7)
theorem combine_reg (how : Bool → Bool → Bool) (h0 : how false false = false) (s m k : Nat) (hs : s ≤ 10) {a b : List R4} (hm : m ≤ 120) (hk : k ≤ 120) (ha : Reg s m a) (hb : Reg s k b) : combineP how a b = (chooseP how a b, 0) := by
  have h1 := ha.valid (by omega) hm
  have h2 := hb.valid (by omega) hk
  have h3 := (choose_reg how h0 s ha.ins hb.ins).len
  have h4 : s * s ≤ 10 * 10 := Nat.mul_le_mul hs hs
  unfold combineP
  rw [h1, h2, Bool.and_self, if_pos rfl, if_neg (by omega)]
theorem choose_eq {how how' : Bool → Bool → Bool} (h0 : how false false = false) (h0' : how' false false = false) {a b c d : List R4} (ha : ∀ q ∈ a, q.l < q.r) (hb : ∀ q ∈ b, q.l < q.r) (hc : ∀ q ∈ c, q.l < q.r) (hd : ∀ q ∈ d, q.l < q.r) (h : ∀ x y, how (inL a x y) (inL b x y) = how' (inL c x y) (inL d x y)) : chooseP how a b = chooseP how' c d :=
  (choose_canon how h0 a b ha hb).uniq ((choose_canon how' h0' c d hc hd).congr fun x y => (h x y).symm)
theorem choose_is {how : Bool → Bool → Bool} (h0 : how false false = false) {a b c : List R4} (ha : ∀ q ∈ a, q.l < q.r) (hca : canonP a = a) (hb : ∀ q ∈ b, q.l < q.r) (hc : ∀ q ∈ c, q.l < q.r) (h : ∀ x y, how (inL b x y) (inL c x y) = inL a x y) : chooseP how b c = a := by
  have h1 := canonP_canon a ha
  rw [hca] at h1
  exact (choose_canon how h0 b c hb hc).uniq (h1.congr fun x y => (h x y).symm)
theorem choose_nil {how : Bool → Bool → Bool} (h0 : how false false = false) {s : Int} {a b : List R4} (ha : InS s a) (hb : InS s b) : chooseP how a b = [] ↔ ∀ x y, how (inL a x y) (inL b x y) = false := by
  constructor
  · intro h x y
    have := choose_mem how h0 ha.pos hb.pos x y
    rw [h] at this
    exact this.symm
  · intro h
    cases hc : chooseP how a b with
    | nil => rfl
    | cons q t =>
      have h1 := choose_in how h0 ha hb q (by rw [hc]; simp)
      have h2 := inL_of (l := chooseP how a b) (q := q) (by rw [hc]; simp) (by omega)
      rw [choose_mem how h0 ha.pos hb.pos, h] at h2
      cases h2
theorem Reg.area {s m : Nat} {l : List R4} (h : Reg s m l) (hs : s ≤ 10) (hm : m ≤ 120) : areaP l = sizeP l ∧ sumI (fun x => sumI (fun y => ind (inL l x y)) 0 s) 0 s = sizeP l := by
  refine ⟨by unfold areaP; rw [h.valid (by omega) hm, if_pos rfl], ?_⟩
  have h1 := canonP_canon l h.ins.pos
  rw [h.canon] at h1
  rw [← canon_size h1 s fun x y hx => h.ins.in x y hx, sumI_swap]
theorem size_zero {s : Int} {l : List R4} (h : InS s l) : 0 ≤ sizeP l ∧ (sizeP l = 0 ↔ l = []) := by
  rw [sizeP_sum]
  induction l with
  | nil => simp
  | cons q t ih =>
    have h1 := ih fun q hq => h q (by simp [hq])
    have h2 := h q (by simp)
    have h3 : 0 < (q.r - q.l) * (q.t - q.b) := Int.mul_pos (by omega) (by omega)
    rw [List.map_cons, List.sum_cons]
    refine ⟨by omega, ⟨fun h => by omega, fun h => by cases h⟩⟩
/-- Areas: a or b and a and b. -/
theorem area_law (s m k : Nat) (hs : s ≤ 10) {a b : List R4} (hm : m ≤ 120) (hk : k ≤ 120) (ha : Reg s m a) (hb : Reg s k b) : areaP a + areaP b = areaP (chooseP orB a b) + areaP (chooseP andB a b) := by
  have h4 : s * s ≤ 10 * 10 := Nat.mul_le_mul hs hs
  obtain ⟨a1, a2⟩ := ha.area hs hm
  obtain ⟨b1, b2⟩ := hb.area hs hk
  obtain ⟨c1, c2⟩ := (choose_reg orB rfl s ha.ins hb.ins).area hs (by omega)
  obtain ⟨d1, d2⟩ := (choose_reg andB rfl s ha.ins hb.ins).area hs (by omega)
  rw [a1, b1, c1, d1, ← a2, ← b2, ← c2, ← d2, ← sumI_plus, ← sumI_plus]
  refine sumI_congr _ _ s 0 fun x _ _ => ?_
  rw [← sumI_plus, ← sumI_plus]
  refine sumI_congr _ _ s 0 fun y _ _ => ?_
  rw [choose_mem orB rfl ha.ins.pos hb.ins.pos, choose_mem andB rfl ha.ins.pos hb.ins.pos]
  cases inL a x y <;> cases inL b x y <;> rfl
/-- region's Within and Meets. -/
def withinP (a b : List R4) : Bool := validP a && validP b && decide ((chooseP notB a b).length = 0)
def overP (p q : R4) : Bool := decide (p.l < q.r) && decide (q.l < p.r) && decide (p.b < q.t) && decide (q.b < p.t)
def meetsP (a b : List R4) : Bool := validP a && validP b && a.any fun p => b.any fun q => overP p q
theorem over_some {s : Int} {a b : List R4} (ha : InS s a) (hb : InS s b) : (a.any fun p => b.any fun q => overP p q) = true ↔ ∃ x y, (inL a x y && inL b x y) = true := by
  constructor
  · intro h
    obtain ⟨p, hp, h⟩ := List.any_eq_true.1 h
    obtain ⟨q, hq, h⟩ := List.any_eq_true.1 h
    have h1 := ha p hp
    have h2 := hb q hq
    simp [overP] at h
    refine ⟨max p.l q.l, max p.b q.b, ?_⟩
    rw [Bool.and_eq_true]
    refine ⟨List.any_eq_true.2 ⟨p, hp, ?_⟩, List.any_eq_true.2 ⟨q, hq, ?_⟩⟩ <;> simp only [R4.has, Bool.and_eq_true, decide_eq_true_eq] <;> omega
  · rintro ⟨x, y, h⟩
    rw [Bool.and_eq_true] at h
    obtain ⟨p, hp, h1⟩ := List.any_eq_true.1 h.1
    obtain ⟨q, hq, h2⟩ := List.any_eq_true.1 h.2
    simp only [R4.has, Bool.and_eq_true, decide_eq_true_eq] at h1 h2
    exact List.any_eq_true.2 ⟨p, hp, List.any_eq_true.2 ⟨q, hq, by simp only [overP, Bool.and_eq_true, decide_eq_true_eq]; omega⟩⟩
theorem within_iff (s m k : Nat) (hs : s ≤ 10) {a b : List R4} (hm : m ≤ 120) (hk : k ≤ 120) (ha : Reg s m a) (hb : Reg s k b) : withinP a b = true ↔ ∀ x y, inL a x y = true → inL b x y = true := by
  have h1 := ha.valid (by omega) hm
  have h2 := hb.valid (by omega) hk
  unfold withinP
  rw [h1, h2, Bool.true_and, Bool.true_and, decide_eq_true_eq, List.length_eq_zero_iff, choose_nil rfl ha.ins hb.ins]
  constructor
  · intro h x y hx
    have := h x y
    rw [hx] at this
    simpa [notB] using this
  · intro h x y
    cases hx : inL a x y with
    | false => rfl
    | true => rw [h x y hx]; rfl
theorem bool_eq {a b : Bool} (h : a = true ↔ b = true) : a = b := by cases a <;> cases b <;> simp_all
theorem within_law (s m k : Nat) (hs : s ≤ 10) {a b : List R4} (hm : m ≤ 120) (hk : k ≤ 120) (ha : Reg s m a) (hb : Reg s k b) :
    withinP a b = decide (areaP (chooseP notB a b) = 0) ∧ meetsP a b = decide (0 < areaP (chooseP andB a b)) ∧ withinP a b = decide (chooseP orB a b = b) ∧ withinP (chooseP andB a b) a = true ∧ withinP a (chooseP orB a b) = true := by
  have h4 : s * s ≤ 10 * 10 := Nat.mul_le_mul hs hs
  have hno := choose_reg notB rfl s ha.ins hb.ins
  have han := choose_reg andB rfl s ha.ins hb.ins
  have hor := choose_reg orB rfl s ha.ins hb.ins
  have hw := within_iff s m k hs hm hk ha hb
  refine ⟨bool_eq ?_, bool_eq ?_, bool_eq ?_, ?_, ?_⟩
  · rw [(hno.area hs (by omega)).1, decide_eq_true_eq, (size_zero hno.ins).2]
    unfold withinP
    rw [ha.valid (by omega) hm, hb.valid (by omega) hk, Bool.true_and, Bool.true_and, decide_eq_true_eq, List.length_eq_zero_iff]
  · have hz := size_zero han.ins
    have hn := choose_nil (how := andB) rfl ha.ins hb.ins
    have ho := over_some ha.ins hb.ins
    have hp : 0 < sizeP (chooseP andB a b) ↔ ¬ chooseP andB a b = [] := by rw [← hz.2]; omega
    rw [(han.area hs (by omega)).1, decide_eq_true_eq, hp, hn]
    unfold meetsP
    rw [ha.valid (by omega) hm, hb.valid (by omega) hk, Bool.true_and, Bool.true_and, ho]
    constructor
    · rintro ⟨x, y, h⟩ h'
      have := h' x y
      unfold andB at this
      rw [h] at this; cases this
    · intro h
      refine Classical.byContradiction fun hc => h fun x y => ?_
      cases hx : andB (inL a x y) (inL b x y) with
      | false => rfl
      | true => exact absurd ⟨x, y, hx⟩ hc
  · rw [hw, decide_eq_true_eq]
    constructor
    · intro h
      refine choose_is rfl hb.ins.pos hb.canon ha.ins.pos hb.ins.pos fun x y => ?_
      have := h x y
      cases hx : inL a x y with
      | false => simp [orB]
      | true => rw [this hx]; rfl
    · intro h x y hx
      have := choose_mem orB rfl ha.ins.pos hb.ins.pos x y
      rw [h, hx] at this
      simpa [orB] using this
  · refine (within_iff s (s * s) m hs (by omega) hm han ha).2 fun x y hx => ?_
    rw [choose_mem andB rfl ha.ins.pos hb.ins.pos] at hx
    simp [andB] at hx; exact hx.1
  · refine (within_iff s m (s * s) hs hm (by omega) ha hor).2 fun x y hx => ?_
    rw [choose_mem orB rfl ha.ins.pos hb.ins.pos, hx]; rfl
/-- The laws of sets. -/
theorem sets_law {a b c : List R4} {s : Int} (ha : InS s a) (hb : InS s b) (hc : InS s c) (hca : canonP a = a) :
    chooseP orB a b = chooseP orB b a ∧ chooseP orB (chooseP orB a b) c = chooseP orB a (chooseP orB b c) ∧ chooseP orB a (chooseP andB a b) = a ∧ chooseP notB c (chooseP orB a b) = chooseP notB (chooseP notB c a) b := by
  have hab := choose_in orB rfl ha hb
  have hbc := choose_in orB rfl hb hc
  have hbo := choose_in andB rfl ha hb
  have hx := choose_in notB rfl hc ha
  refine ⟨choose_eq rfl rfl ha.pos hb.pos hb.pos ha.pos fun x y => ?_, choose_eq rfl rfl hab.pos hc.pos ha.pos hbc.pos fun x y => ?_, choose_is rfl ha.pos hca ha.pos hbo.pos fun x y => ?_, choose_eq rfl rfl hc.pos hab.pos hx.pos hb.pos fun x y => ?_⟩
  · cases inL a x y <;> cases inL b x y <;> rfl
  · rw [choose_mem orB rfl ha.pos hb.pos, choose_mem orB rfl hb.pos hc.pos]
    cases inL a x y <;> cases inL b x y <;> cases inL c x y <;> rfl
  · rw [choose_mem andB rfl ha.pos hb.pos]
    cases inL a x y <;> cases inL b x y <;> rfl
  · rw [choose_mem orB rfl ha.pos hb.pos, choose_mem notB rfl hc.pos ha.pos]
    cases inL a x y <;> cases inL b x y <;> cases inL c x y <;> rfl
end Go.Proofs.YtpcfhcdbibklcaaGreat
