/- Plain law: regions that the tape makes are canonical; valid regions; halves (regions). -/
import Derived.Test.YtpcfhcdbibklcaaGreatF5
namespace Go.Proofs.YtpcfhcdbibklcaaGreat
open Go.RowKit
set_option linter.unusedVariables false

/-- Whether rectangles are those of a valid region. -/
def validP (l : List R4) : Bool := decide (l.length ≤ 120) && l.all R4.ok && decide (canonP l = l)
theorem ok_pos {l : List R4} (h : l.all R4.ok = true) : ∀ q ∈ l, q.l < q.r := by
  intro q hq
  have := List.all_eq_true.1 h q hq
  simp [R4.ok] at this
  omega
theorem any_not_all {α : Type} (l : List α) (p : α → Bool) : (l.any fun q => !p q) = !l.all p := by
  induction l with
  | nil => rfl
  | cons a t ih => simp [ih, Bool.not_and]
/-- The region of some rectangles, and the error. -/
def ofP (l : List R4) : List R4 × Int := if 120 < l.length then ([], 1) else if l.all R4.ok then (if 120 < (canonP l).length then ([], 1) else (canonP l, 0)) else ([], 2)
theorem ofP_eq (l : List R4) : ofP l = ofL l := by
  unfold ofP ofL
  split
  · rfl
  · split
    · rename_i h
      rw [canonP_comb l (ok_pos h)]
    · rfl
/-- Rectangles that lie within a square of a side. -/
def InS (s : Int) (l : List R4) : Prop := ∀ q ∈ l, 0 ≤ q.l ∧ q.l < q.r ∧ q.r ≤ s ∧ 0 ≤ q.b ∧ q.b < q.t ∧ q.t ≤ s
theorem InS.ok {s : Int} {l : List R4} (h : InS s l) (hs : s ≤ 1000) : l.all R4.ok = true := by
  rw [List.all_eq_true]
  intro q hq
  have := h q hq
  simp [R4.ok]
  omega
theorem InS.pos {s : Int} {l : List R4} (h : InS s l) : ∀ q ∈ l, q.l < q.r := fun q hq => (h q hq).2.1
theorem InS.in {s : Int} {l : List R4} (h : InS s l) (x y : Int) (hx : inL l x y = true) : 0 ≤ x ∧ x < s ∧ 0 ≤ y ∧ y < s := by
  obtain ⟨q, hq, h1⟩ := List.any_eq_true.1 hx
  have := h q hq
  simp [R4.has] at h1
  omega
/-- What is canonical: it is its own canonical form. -/
theorem Canon.own {P : Int → Int → Bool} {R : List R4} (h : Canon P R) (hp : ∀ q ∈ R, q.l < q.r) : canonP R = R :=
  (canonP_canon R hp).uniq (h.congr fun x y => (h.mem x y).symm)
theorem canonP_in {s : Int} {l : List R4} (h : InS s l) : InS s (canonP l) := by
  intro q hq
  have h1 := (canonP_canon l h.pos).bd 0 s 0 s (fun x y hx => h.in x y hx) q hq
  omega
theorem canonP_idem {s : Int} {l : List R4} (h : InS s l) : canonP (canonP l) = canonP l :=
  (canonP_canon l h.pos).own (canonP_in h).pos
theorem mkRect_in (r : List Int) (s : Int) (hs : 1 ≤ s) : 0 ≤ (mkRect r s).l ∧ (mkRect r s).l < (mkRect r s).r ∧ (mkRect r s).r ≤ s ∧ 0 ≤ (mkRect r s).b ∧ (mkRect r s).b < (mkRect r s).t ∧ (mkRect r s).t ≤ s := by
  have h1 := nx_bd r s hs
  have h2 := nx_bd r.tail s hs
  have h3 := nx_bd r.tail.tail (s - nx r s) (by omega)
  have h4 := nx_bd r.tail.tail.tail (s - nx r.tail s) (by omega)
  simp only [mkRect]
  omega
theorem mkRects_in (s : Int) (hs : 1 ≤ s) : ∀ (n : Nat) (r : List Int), InS s (mkRects n r s).1 ∧ (mkRects n r s).1.length = n
  | 0, r => ⟨by intro q hq; simp [mkRects] at hq, rfl⟩
  | n + 1, r => by
    obtain ⟨h1, h2⟩ := mkRects_in s hs n r.tail.tail.tail.tail
    refine ⟨?_, by simp [mkRects, h2]⟩
    intro q hq
    rcases List.mem_cons.1 (show q ∈ mkRect r s :: (mkRects n r.tail.tail.tail.tail s).1 from hq) with rfl | hq
    · exact mkRect_in r s hs
    · exact h1 q hq
/-- A region as the tape makes it: few rectangles, in canonical form. -/
structure Reg (s : Int) (m : Nat) (l : List R4) : Prop where
  ins : InS s l
  canon : canonP l = l
  len : l.length ≤ m
theorem ofP_reg (s : Int) (hs1 : s ≤ 1000) (l : List R4) (hl : InS s l) (n : Nat) (hn : l.length ≤ n) (hm : (2 * n - 1) * n ≤ 120) (hn2 : n ≤ 120) : ofP l = (canonP l, 0) ∧ Reg s ((2 * n - 1) * n) (canonP l) := by
  have h1 := canonP_len l
  have h2 : (2 * l.length - 1) * l.length ≤ (2 * n - 1) * n := Nat.mul_le_mul (by omega) hn
  refine ⟨?_, canonP_in hl, canonP_idem hl, by omega⟩
  unfold ofP
  rw [if_neg (by omega), if_pos (hl.ok hs1), if_neg (by omega)]
theorem mkReg_reg (r : List Int) (s most : Int) (hs : 1 ≤ s) (hs1 : s ≤ 1000) (h0 : 0 ≤ most) (h8 : most ≤ 7) : Reg s ((2 * most.toNat - 1) * most.toNat) (mkReg r s most).1 := by
  have hb := nx_bd r (most + 1) (by omega)
  obtain ⟨h1, h2⟩ := mkRects_in s hs (nx r (most + 1)).toNat r.tail
  have hk : (2 * most.toNat - 1) * most.toNat ≤ 120 := by
    obtain ⟨k, hk⟩ := Int.eq_ofNat_of_zero_le h0
    subst hk
    have hk7 : k ≤ 7 := by omega
    simp only [Int.toNat_natCast]
    calc (2 * k - 1) * k ≤ 13 * 7 := Nat.mul_le_mul (by omega) hk7
      _ ≤ 120 := by omega
  have h3 := ofP_reg s hs1 _ h1 most.toNat (by omega) hk (by omega)
  unfold mkReg
  rw [← ofP_eq, h3.1]
  exact h3.2
theorem Reg.valid {s : Int} {m : Nat} {l : List R4} (h : Reg s m l) (hs : s ≤ 1000) (hm : m ≤ 120) : validP l = true := by
  unfold validP
  rw [h.ins.ok hs, decide_eq_true (Nat.le_trans h.len hm), decide_eq_true h.canon]
  rfl
/-- A rectangle in two halves. -/
def halve (c : Int) (q : R4) : List R4 := if q.l < q.l + c.tmod (q.r - q.l) then [⟨q.l, q.b, q.l + c.tmod (q.r - q.l), q.t⟩, ⟨q.l + c.tmod (q.r - q.l), q.b, q.r, q.t⟩] else [⟨q.l + c.tmod (q.r - q.l), q.b, q.r, q.t⟩]
theorem halve_in (c : Int) (hc : 0 ≤ c) (q : R4) (hq : q.l < q.r) (x y : Int) : inL (halve c q) x y = q.has x y := by
  have h1 := Int.tmod_lt_of_pos c (show 0 < q.r - q.l by omega)
  have h2 := Int.tmod_nonneg (q.r - q.l) hc
  unfold halve
  generalize c.tmod (q.r - q.l) = k at *
  rw [Bool.eq_iff_iff]
  split
  · simp only [inL, List.any_cons, List.any_nil, Bool.or_false, R4.has, Bool.or_eq_true, Bool.and_eq_true, decide_eq_true_eq]
    omega
  · simp only [inL, List.any_cons, List.any_nil, Bool.or_false, R4.has, Bool.and_eq_true, decide_eq_true_eq]
    omega
theorem halve_bd (c : Int) (hc : 0 ≤ c) (s : Int) (q : R4) (hq : 0 ≤ q.l ∧ q.l < q.r ∧ q.r ≤ s ∧ 0 ≤ q.b ∧ q.b < q.t ∧ q.t ≤ s) : InS s (halve c q) := by
  have h1 := Int.tmod_lt_of_pos c (show 0 < q.r - q.l by omega)
  have h2 := Int.tmod_nonneg (q.r - q.l) hc
  unfold halve
  generalize c.tmod (q.r - q.l) = k at *
  intro p hp
  split at hp
  · simp only [List.mem_cons, List.not_mem_nil, or_false] at hp
    rcases hp with rfl | rfl <;> simp only <;> omega
  · simp only [List.mem_cons, List.not_mem_nil, or_false] at hp
    subst hp; simp only; omega
theorem halve_len (c : Int) (q : R4) : (halve c q).length ≤ 2 := by unfold halve; split <;> simp
theorem halves_in (c : Int) (hc : 0 ≤ c) (l : List R4) (hl : ∀ q ∈ l, q.l < q.r) (x y : Int) : inL (l.flatMap (halve c)) x y = inL l x y := by
  induction l with
  | nil => rfl
  | cons q t ih =>
    have h1 := halve_in c hc q (hl q (by simp)) x y
    have h2 := ih fun q hq => hl q (by simp [hq])
    simp only [inL, List.flatMap_cons, List.any_append, List.any_cons] at h1 h2 ⊢
    rw [h1, h2]
theorem halves_len (c : Int) (l : List R4) : (l.flatMap (halve c)).length ≤ 2 * l.length := by
  induction l with
  | nil => simp
  | cons q t ih => have := halve_len c q; rw [List.flatMap_cons, List.length_append, List.length_cons]; omega
/-- RegionForm, as a law of lists. -/
theorem form_law (c : Int) (hc : 0 ≤ c) (s : Int) (hs : s ≤ 1000) (a ps : List R4) (ha : Reg s 28 a) (hp : ps.Perm (a.flatMap (halve c))) : ofP (ps ++ a) = (a, 0) := by
  have hin : InS s (ps ++ a) := by
    intro q hq
    rcases List.mem_append.1 hq with hq | hq
    · obtain ⟨o, ho, h1⟩ := List.mem_flatMap.1 (hp.mem_iff.1 hq)
      exact halve_bd c hc s o (ha.ins o ho) q h1
    · exact ha.ins q hq
  have hl : (ps ++ a).length ≤ 120 := by
    have h1 := hp.length_eq
    have h2 := halves_len c a
    have h3 := ha.len
    rw [List.length_append]
    omega
  have hsame : canonP (ps ++ a) = a := by
    refine (canonP_congr (ps ++ a) a hin.pos ha.ins.pos fun x y => ?_).trans ha.canon
    have h1 : inL ps x y = inL a x y := by
      rw [← halves_in c hc a ha.ins.pos x y]
      exact any_perm hp _
    unfold inL at h1 ⊢
    rw [List.any_append, h1, Bool.or_self]
  unfold ofP
  rw [if_neg (by omega), if_pos (hin.ok hs), hsame, if_neg (by have := ha.len; omega)]
end Go.Proofs.YtpcfhcdbibklcaaGreat
